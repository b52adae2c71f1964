/- Part 7 of a proof: a Go function is evaluated on abstract values (texts S15 .. S16); no conditions beyond those of each theorem. -/
import Derived.Test.YtoofpdaplnjmdaaGreatDoorAi6
set_option linter.all false
set_option linter.unusedVariables false
set_option linter.unusedSimpArgs false
set_option linter.unnecessarySimpa false
section
/- sumfile: a lock is printed. -/
namespace Go.Proofs.Tryz.Ai
open Go Go.AI Go.Proofs Go.B64
set_option maxHeartbeats 8000000
set_option maxRecDepth 4000
set_option linter.unusedVariables false

theorem Len_b (b : Nat) (σ : List (List AV)) (o : Option (List UInt8)) (hb : σ[b]? = some (bc b o)) :
    ev 97 [.gp b 0 (some (SB, 2))] σ = some (.int .i64 (txt o).length, σ) := by
  refine EV_post rfl Tryz.func97 rfl (by simp [Tryz.ntmps97]) (by kernel_rfl) (by kernel_rfl) ?_
  cases o with
  | none =>
    simp only [bc, txt_none] at hb ⊢
    simp (maxSteps := 4000000) (disch := omega) [dT, dF, wrap64, -getElem?_pos, List.getElem?_cons_zero, List.getElem?_cons_succ, hb, Tryz.results97, SB, U8]
  | some l =>
    simp only [bc, txt_some] at hb ⊢
    simp (maxSteps := 4000000) (disch := omega) [dT, dF, wrap64, -getElem?_pos, List.getElem?_cons_zero, List.getElem?_cons_succ, hb, Tryz.results97, SB, U8]
theorem limited_b (b : Nat) (σ : List (List AV)) (o : Option (List UInt8)) (hb : σ[b]? = some (bc b o)) :
    ∃ σ', ev 62 [.gp b 0 (some (SB, 2))] σ = some (if 65536 < (txt o).length then .tup [.str [], .int .i64 13] else .tup [.str (txt o), .int .i64 0], σ') ∧ (σ' = σ ∨ σ' = σ.set b (bs b o)) := by
  have hL := Len_b b σ o hb
  have hS := String_b b σ o hb
  by_cases hc : 65536 < (txt o).length
  · rw [if_pos hc]
    refine ⟨σ, ?_, .inl rfl⟩
    simp only [SB] at hL hS ⊢
    refine EV_post rfl Tryz.func62 rfl (by simp [Tryz.ntmps62]) (by kernel_rfl) (by kernel_rfl) ?_
    simp (maxSteps := 4000000) [List.getElem?_cons_zero, List.getElem?_cons_succ, hL, hc, Tryz.results62]
  · rw [if_neg hc]
    refine ⟨σ.set b (bs b o), ?_, .inr rfl⟩
    simp only [SB] at hL hS ⊢
    refine EV_post rfl Tryz.func62 rfl (by simp [Tryz.ntmps62]) (by kernel_rfl) (by kernel_rfl) ?_
    simp (maxSteps := 4000000) [List.getElem?_cons_zero, List.getElem?_cons_succ, hL, hS, hc, Tryz.results62]
/-- a printed line -/
def lnT (x : Ln) : List UInt8 := x.1.1 ++ [32] ++ x.1.2 ++ (if x.2.1 = 1 then goMod else []) ++ ([32] ++ x.2.2 ++ [10])
/-- its error -/
def lnE (ahead : List Ln) (x : Ln) : Int := if x.2.1 ≠ 0 ∧ x.2.1 ≠ 1 then 7 else checkL ahead x
def fmtE (ahead : List Ln) : List Ln → Int
  | [] => 0
  | x :: r => if lnE ahead x ≠ 0 then lnE ahead x else fmtE (ahead ++ [x]) r
theorem fmtE_at {l : List Ln} {i : Nat} {x : Ln} (hx : l[i]? = some x) : fmtE (l.take i) (l.drop i) = if lnE (l.take i) x ≠ 0 then lnE (l.take i) x else fmtE (l.take (i + 1)) (l.drop (i + 1)) := by
  obtain ⟨hi, rfl⟩ := List.getElem?_eq_some_iff.1 hx
  rw [List.drop_eq_getElem_cons hi, fmtE, List.take_add_one, hx]
  rfl
def fmtT (l : List Ln) : List UInt8 := (isrt lnC l).flatMap lnT
def fmtP (l : List Ln) : List UInt8 × Int := if fmtE [] l ≠ 0 then ([], fmtE [] l) else if 65536 < (fmtT l).length then ([], 13) else (fmtT l, 0)
def lnS (x : Ln) : Prop := x.1.1.length ≤ 2 ^ 20 ∧ x.1.2.length ≤ 2 ^ 20 ∧ x.2.2.length ≤ 2 ^ 20
theorem lnT_len {x : Ln} (h : lnS x) : (lnT x).length ≤ 2 ^ 22 := by
  obtain ⟨h1, h2, h3⟩ := h
  unfold lnT goMod
  split <;> simp only [List.length_append, List.length_cons, List.length_nil] <;> omega
theorem lnT_flat : ∀ {l : List Ln}, (∀ x ∈ l, lnS x) → (l.flatMap lnT).length ≤ l.length * 2 ^ 22
  | [], _ => by simp
  | x :: r, h => by
    have h1 := lnT_len (h x (List.mem_cons_self ..))
    have h2 := lnT_flat (l := r) fun y hy => h y (List.mem_cons_of_mem _ hy)
    rw [List.flatMap_cons, List.length_append, List.length_cons]
    omega
/-- the loop that checks -/
def fmtI (l : List Ln) (E : Int) (i : Nat) : Prop := i ≤ l.length ∧ fmtE (l.take i) (l.drop i) = E
def bufI (L : List Ln) (i : Nat) (o : Option (List UInt8)) : Prop := i ≤ L.length ∧ txt o = (L.take i).flatMap lnT
theorem Format_eq (l : List Ln) (hl : l.length ≤ 128) (h : ∀ x ∈ l, lnS x) (σ) : ev 25 [.sl .sh (l.map lnF)] σ = some (.tup [.str (fmtP l).1, .int .i64 (fmtP l).2], σ) := by
  refine EV_post rfl Tryz.func25 rfl (by simp [Tryz.ntmps25]) (by kernel_rfl) (by kernel_rfl) ?_
  simp (maxSteps := 4000000) [List.getElem?_cons_zero, List.getElem?_cons_succ, ]
  obtain ⟨E, hE⟩ : ∃ E, fmtE [] l = E := ⟨_, rfl⟩
  have hm : (l.map lnF).length = l.length := by simp
  have htk : ∀ i, (l.map lnF).take i = (l.take i).map lnF := fun i => by rw [List.map_take]
  have hall : allCells 4 (l.map lnF) := by simp
  refine Post_loop (I := fun i : Nat => ⟨[(0, .sl .sh (l.map lnF)), (10, .sl .sh (l.map lnF)), (11, .int .i64 l.length), (12, .int .i64 i)], [], σ⟩) (Pr := fmtI l E) (μ := fun i => l.length - i) (a := 0) (by simp) ⟨by simp, by simpa using hE⟩ ?_
  rintro i ⟨hi, h2⟩
  have w1 : IntKind.i64.wrap ((i : Int) + 1) = (i : Int) + 1 := wrap64 (by omega)
  by_cases hc : i < l.length
  · obtain ⟨x, hx⟩ : ∃ x, l[i]? = some x := ⟨_, List.getElem?_eq_getElem hc⟩
    have hxs := h x (List.mem_of_getElem? hx)
    rw [fmtE_at hx] at h2
    have hC := check_eq (l.take i) (by simp; omega) x ⟨by have := hxs.1; omega, by have := hxs.2.1; omega, by have := hxs.2.2; omega⟩
    rw [← htk] at hC
    have hW := fun b e => when_eq b e
    have hF := fun a b => sfirst_eq [a, b] (by simp)
    simp only [List.map_cons, List.map_nil] at hF
    obtain ⟨C, hCC⟩ : ∃ C, checkL (l.take i) x = C := ⟨_, rfl⟩
    have hL : lnE (l.take i) x = if x.2.1 ≠ 0 ∧ x.2.1 ≠ 1 then 7 else C := by rw [← hCC]; rfl
    rw [hCC] at hC
    have hf1 : fstE [7, C] = 7 := rfl
    have hf2 : fstE [0, C] = C := by simp [fstE, orI]; intro e; rw [e]
    have hf3 : fstE [0, 0] = 0 := rfl
    have hfe : ∀ E, E ≠ 0 → fmtE [] l = E → fmtP l = ([], E) := fun E h0 he => by unfold fmtP; rw [he, if_pos h0]
    obtain ⟨⟨x1, x2⟩, x3, x4⟩ := x
    simp only at hL
    obtain ⟨L, hLL⟩ : ∃ L, l.map lnF = L := ⟨_, rfl⟩
    rw [lnFx] at hC
    have hxL : L[i]? = some (.agg [.str x1, .str x2, .int .i64 x3, .str x4]) := by rw [← hLL, List.getElem?_map, hx]; rfl
    rw [hLL] at hC hm hall ⊢
    have hil : i ≤ L.length := by omega
    by_cases k : x3 ≠ 0 ∧ x3 ≠ 1
    · obtain ⟨k0, k1⟩ := k
      rw [if_pos ⟨k0, k1⟩] at hL
      rw [hL, if_pos (by decide)] at h2
      have hp := hfe 7 (by decide) (by rw [hE, h2])
      simp (maxSteps := 4000000) [List.getElem?_cons_zero, List.getElem?_cons_succ, -getElem?_pos, -regionA_true, hc, hxL]
      refine Post_bndD [] _ (by rfl) (by simp (maxSteps := 4000000) [List.getElem?_cons_zero, List.getElem?_cons_succ, ]; exact rfl) ?_
      repeat (first
        | refine PostD_go _ (by rfl) (by rfl) (by simp (maxSteps := 4000000) [List.getElem?_cons_zero, List.getElem?_cons_succ, -getElem?_pos, hc, hm, hi, hall, hxL, hC, hW, hF, hf1, k0, k1]; exact rfl) (by first | exact .inl rfl | exact .inr rfl) (by rfl) ?_
        | refine PostD_no1 _ (by rfl) (by rfl) (by simp (maxSteps := 4000000) [List.getElem?_cons_zero, List.getElem?_cons_succ, ]; exact rfl) ?_)
      refine PostD_end ?_
      simp (maxSteps := 4000000) [List.getElem?_cons_zero, List.getElem?_cons_succ, hp, Tryz.results25]
    · rw [if_neg k] at hL
      have k' : x3 = 0 ∨ x3 = 1 := by omega
      rw [hL] at h2
      by_cases hC0 : C = 0
      · rw [if_neg (by simpa using hC0)] at h2
        rcases k' with rfl | rfl
        · simp (maxSteps := 4000000) [List.getElem?_cons_zero, List.getElem?_cons_succ, -getElem?_pos, -regionA_true, hc, hxL]
          refine Post_bndD [] _ (by rfl) (by simp (maxSteps := 4000000) [List.getElem?_cons_zero, List.getElem?_cons_succ, ]; exact rfl) ?_
          repeat (first
            | refine PostD_go _ (by rfl) (by rfl) (by simp (maxSteps := 4000000) [List.getElem?_cons_zero, List.getElem?_cons_succ, -getElem?_pos, hc, hm, hi, hall, hxL, hC, hW, hF, hf2, hf3, hC0]; exact rfl) (by first | exact .inl rfl | exact .inr rfl) (by rfl) ?_
            | refine PostD_no1 _ (by rfl) (by rfl) (by simp (maxSteps := 4000000) [List.getElem?_cons_zero, List.getElem?_cons_succ, ]; exact rfl) ?_)
          refine PostD_end ?_
          simp (maxSteps := 4000000) [List.getElem?_cons_zero, List.getElem?_cons_succ, -Prod.exists, -Prod.forall, w1]
          exact ⟨i + 1, ⟨by omega, h2⟩, by omega, by simp⟩
        · simp (maxSteps := 4000000) [List.getElem?_cons_zero, List.getElem?_cons_succ, -getElem?_pos, -regionA_true, hc, hxL]
          refine Post_bndD [] _ (by rfl) (by simp (maxSteps := 4000000) [List.getElem?_cons_zero, List.getElem?_cons_succ, ]; exact rfl) ?_
          repeat (first
            | refine PostD_go _ (by rfl) (by rfl) (by simp (maxSteps := 4000000) [List.getElem?_cons_zero, List.getElem?_cons_succ, -getElem?_pos, hc, hm, hi, hall, hxL, hC, hW, hF, hf2, hf3, hC0]; exact rfl) (by first | exact .inl rfl | exact .inr rfl) (by rfl) ?_
            | refine PostD_no1 _ (by rfl) (by rfl) (by simp (maxSteps := 4000000) [List.getElem?_cons_zero, List.getElem?_cons_succ, ]; exact rfl) ?_)
          refine PostD_end ?_
          simp (maxSteps := 4000000) [List.getElem?_cons_zero, List.getElem?_cons_succ, -Prod.exists, -Prod.forall, w1]
          exact ⟨i + 1, ⟨by omega, h2⟩, by omega, by simp⟩
      · rw [if_pos hC0] at h2
        have hp := hfe C hC0 (by rw [hE, h2])
        rcases k' with rfl | rfl
        · simp (maxSteps := 4000000) [List.getElem?_cons_zero, List.getElem?_cons_succ, -getElem?_pos, -regionA_true, hc, hxL]
          refine Post_bndD [] _ (by rfl) (by simp (maxSteps := 4000000) [List.getElem?_cons_zero, List.getElem?_cons_succ, ]; exact rfl) ?_
          repeat (first
            | refine PostD_go _ (by rfl) (by rfl) (by simp (maxSteps := 4000000) [List.getElem?_cons_zero, List.getElem?_cons_succ, -getElem?_pos, hc, hm, hi, hall, hxL, hC, hW, hF, hf2, hf3, hC0]; exact rfl) (by first | exact .inl rfl | exact .inr rfl) (by rfl) ?_
            | refine PostD_no1 _ (by rfl) (by rfl) (by simp (maxSteps := 4000000) [List.getElem?_cons_zero, List.getElem?_cons_succ, ]; exact rfl) ?_)
          refine PostD_end ?_
          simp (maxSteps := 4000000) [List.getElem?_cons_zero, List.getElem?_cons_succ, hC0, hp, Tryz.results25]
        · simp (maxSteps := 4000000) [List.getElem?_cons_zero, List.getElem?_cons_succ, -getElem?_pos, -regionA_true, hc, hxL]
          refine Post_bndD [] _ (by rfl) (by simp (maxSteps := 4000000) [List.getElem?_cons_zero, List.getElem?_cons_succ, ]; exact rfl) ?_
          repeat (first
            | refine PostD_go _ (by rfl) (by rfl) (by simp (maxSteps := 4000000) [List.getElem?_cons_zero, List.getElem?_cons_succ, -getElem?_pos, hc, hm, hi, hall, hxL, hC, hW, hF, hf2, hf3, hC0]; exact rfl) (by first | exact .inl rfl | exact .inr rfl) (by rfl) ?_
            | refine PostD_no1 _ (by rfl) (by rfl) (by simp (maxSteps := 4000000) [List.getElem?_cons_zero, List.getElem?_cons_succ, ]; exact rfl) ?_)
          refine PostD_end ?_
          simp (maxSteps := 4000000) [List.getElem?_cons_zero, List.getElem?_cons_succ, hC0, hp, Tryz.results25]
  · have hE0 : fmtE [] l = 0 := by rw [hE, ← h2, List.drop_of_length_le (by omega)]; rfl
    have hO := ordered_eq l (by omega) (fun x hx => ⟨by have := (h x hx).1; omega, by have := (h x hx).2.1; omega⟩)
    have hp : fmtP l = if 65536 < (fmtT l).length then ([], 13) else (fmtT l, 0) := by unfold fmtP; rw [hE0, if_neg (by simp)]
    have hfT : fmtT l = (isrt lnC l).flatMap lnT := rfl
    have hs : ∀ x ∈ isrt lnC l, lnS x := fun x hx => h x (isrt_mem.1 hx)
    have hsl : (isrt lnC l).length = l.length := isrt_len l
    obtain ⟨L, hL⟩ : ∃ L, isrt lnC l = L := ⟨_, rfl⟩
    rw [hL] at hO hfT hs hsl
    simp (maxSteps := 4000000) [List.getElem?_cons_zero, List.getElem?_cons_succ, hc, hO]
    refine Post_loop (I := fun p : Nat × Option (List UInt8) => ⟨[(7, .gp σ.length 0 (some (SB, 2))), (38, .sl (.ex 42 4) (L.map lnF)), (39, .int .i64 l.length), (40, .int .i64 p.1)], [], σ ++ [bc σ.length p.2]⟩)
      (Pr := fun p => bufI L p.1 p.2) (μ := fun p => l.length - p.1) (a := (0, none)) (by simp [bc, SB, hsl]) ⟨by simp, by simp⟩ ?_
    rintro ⟨i, o⟩ ⟨hi, ho⟩
    simp only at hi ho ⊢
    have w1 : IntKind.i64.wrap ((i : Int) + 1) = (i : Int) + 1 := wrap64 (by omega)
    by_cases hc : i < l.length
    · obtain ⟨x, hx⟩ : ∃ x, L[i]? = some x := ⟨_, List.getElem?_eq_getElem (by omega)⟩
      have hxs := hs x (List.mem_of_getElem? hx)
      have ho' : txt o ++ lnT x = (L.take (i + 1)).flatMap lnT := by rw [ho, List.take_add_one, hx, List.flatMap_append]; simp
      have hol : (txt o).length ≤ 128 * 2 ^ 22 := by
        have := lnT_flat (l := L.take i) fun x hx => hs x (List.mem_of_mem_take hx)
        rw [← ho] at this
        exact Nat.le_trans this (Nat.mul_le_mul_right _ (by simp; omega))
      obtain ⟨⟨x1, x2⟩, x3, x4⟩ := x
      obtain ⟨s1, s2, s3⟩ := hxs
      simp only at s1 s2 s3
      have b1 : x1.length + 1 ≤ most := by unfold most; omega
      have b2 : x1.length + 1 + x2.length ≤ most := by unfold most; omega
      have b3 : x4.length + 1 ≤ most := by unfold most; omega
      have b5 : 1 + x4.length ≤ most := by omega
      have b4 : x4.length + 1 + 1 ≤ most := by unfold most; omega
      have hW1 := WriteString_eq σ [] o (x1 ++ [32] ++ x2) (by simp; unfold most; omega)
      by_cases hk : x3 = 1
      · subst hk
        have hW2 := WriteString_eq σ [] (some (txt o ++ (x1 ++ [32] ++ x2))) [47, 103, 111, 46, 109, 111, 100] (by simp; unfold most; omega)
        have hW3 := WriteString_eq σ [] (some (txt o ++ (x1 ++ [32] ++ x2) ++ [47, 103, 111, 46, 109, 111, 100])) ([32] ++ x4 ++ [10]) (by simp; unfold most; omega)
        simp only [txt_some] at hW2 hW3
        have hfin : txt o ++ (x1 ++ [32] ++ x2) ++ [47, 103, 111, 46, 109, 111, 100] ++ ([32] ++ x4 ++ [10]) = (L.take (i + 1)).flatMap lnT := by rw [← ho']; simp [lnT, goMod]
        obtain ⟨t1, ht1⟩ : ∃ t, x1 ++ [32] ++ x2 = t := ⟨_, rfl⟩
        obtain ⟨t3, ht3⟩ : ∃ t, [32] ++ x4 ++ [10] = t := ⟨_, rfl⟩
        have ht3' : 32 :: (x4 ++ [10]) = t3 := ht3
        rw [ht1] at hW1 hW2 hW3 hfin
        rw [ht3] at hW3 hfin
        obtain ⟨y1, hy1⟩ : ∃ t, txt o ++ t1 = t := ⟨_, rfl⟩
        rw [hy1] at hW1 hW2 hW3 hfin
        obtain ⟨y2, hy2⟩ : ∃ t, y1 ++ [47, 103, 111, 46, 109, 111, 100] = t := ⟨_, rfl⟩
        rw [hy2] at hW2 hW3 hfin
        obtain ⟨y3, hy3⟩ : ∃ t, y2 ++ t3 = t := ⟨_, rfl⟩
        rw [hy3] at hW3 hfin
        obtain ⟨B0, hB0⟩ : ∃ B, bc σ.length o = B := ⟨_, rfl⟩
        rw [hB0] at hW1 ⊢
        obtain ⟨B1, hB1⟩ : ∃ B, bc σ.length (some y1) = B := ⟨_, rfl⟩
        rw [hB1] at hW1 hW2
        obtain ⟨B2, hB2⟩ : ∃ B, bc σ.length (some y2) = B := ⟨_, rfl⟩
        rw [hB2] at hW2 hW3
        simp only [SB] at hW1 hW2 hW3 ⊢
        simp (maxSteps := 4000000) [List.getElem?_cons_zero, List.getElem?_cons_succ, -getElem?_pos, -List.append_assoc, -Prod.exists, -Prod.forall, hc, hx, lnFx, b1, b2, b3, b4, b5, ht1, ht3, ht3', hW1, hW2, hW3, w1]
        exact ⟨(i + 1, some y3), ⟨by simp; omega, by simpa using hfin⟩, by simp; omega, by simp⟩
      · have hW3 := WriteString_eq σ [] (some (txt o ++ (x1 ++ [32] ++ x2))) ([32] ++ x4 ++ [10]) (by simp; unfold most; omega)
        simp only [txt_some] at hW3
        have hfin : txt o ++ (x1 ++ [32] ++ x2) ++ ([32] ++ x4 ++ [10]) = (L.take (i + 1)).flatMap lnT := by rw [← ho']; simp [lnT, hk]
        obtain ⟨t1, ht1⟩ : ∃ t, x1 ++ [32] ++ x2 = t := ⟨_, rfl⟩
        obtain ⟨t3, ht3⟩ : ∃ t, [32] ++ x4 ++ [10] = t := ⟨_, rfl⟩
        have ht3' : 32 :: (x4 ++ [10]) = t3 := ht3
        rw [ht1] at hW1 hW3 hfin
        rw [ht3] at hW3 hfin
        obtain ⟨y1, hy1⟩ : ∃ t, txt o ++ t1 = t := ⟨_, rfl⟩
        rw [hy1] at hW1 hW3 hfin
        obtain ⟨y3, hy3⟩ : ∃ t, y1 ++ t3 = t := ⟨_, rfl⟩
        rw [hy3] at hW3 hfin
        obtain ⟨B0, hB0⟩ : ∃ B, bc σ.length o = B := ⟨_, rfl⟩
        rw [hB0] at hW1 ⊢
        obtain ⟨B1, hB1⟩ : ∃ B, bc σ.length (some y1) = B := ⟨_, rfl⟩
        rw [hB1] at hW1 hW3
        simp only [SB] at hW1 hW3 ⊢
        simp (maxSteps := 4000000) [List.getElem?_cons_zero, List.getElem?_cons_succ, -getElem?_pos, -List.append_assoc, -Prod.exists, -Prod.forall, hc, hx, lnFx, hk, b1, b2, b3, b4, b5, ht1, ht3, ht3', hW1, hW3, w1]
        exact ⟨(i + 1, some y3), ⟨by simp; omega, by simpa using hfin⟩, by simp; omega, by simp⟩
    · obtain ⟨σ', hLim, hσ'⟩ := limited_b σ.length (σ ++ [bc σ.length o]) o (by simp)
      rw [List.take_of_length_le (by omega), ← hfT] at ho
      rw [ho] at hLim
      have hσ2 : ∃ B, σ' = σ ++ [B] := by
        rcases hσ' with rfl | rfl
        · exact ⟨_, rfl⟩
        · exact ⟨bs σ.length o, by simp⟩
      obtain ⟨B, rfl⟩ := hσ2
      simp only [SB] at hLim ⊢
      by_cases hq : 65536 < (fmtT l).length
      · rw [if_pos hq] at hLim hp
        simp (maxSteps := 4000000) [List.getElem?_cons_zero, List.getElem?_cons_succ, hc, hLim, hp, Tryz.results25]
      · rw [if_neg hq] at hLim hp
        simp (maxSteps := 4000000) [List.getElem?_cons_zero, List.getElem?_cons_succ, hc, hLim, hp, Tryz.results25]
end Go.Proofs.Tryz.Ai
end
section
/- sumfile: a lock is printed, the document's. -/
namespace Go.Proofs.Tryz.Ai
open Go Go.AI Go.Proofs Go.B64
set_option maxHeartbeats 8000000
set_option maxRecDepth 4000
set_option linter.unusedVariables false

theorem rFormat_eq (l : List Ln) (hl : l.length ≤ 128) (h : ∀ x ∈ l, lnS x) (σ) : ev 26 [.sl .sh (l.map lnF)] σ = some (.tup [.str (fmtP l).1, .int .i64 (fmtP l).2], σ) := by
  refine EV_post rfl Tryz.func26 rfl (by simp [Tryz.ntmps26]) (by kernel_rfl) (by kernel_rfl) ?_
  simp (maxSteps := 4000000) [List.getElem?_cons_zero, List.getElem?_cons_succ, ]
  obtain ⟨E, hE⟩ : ∃ E, fmtE [] l = E := ⟨_, rfl⟩
  have hm : (l.map lnF).length = l.length := by simp
  have htk : ∀ i, (l.map lnF).take i = (l.take i).map lnF := fun i => by rw [List.map_take]
  have hall : allCells 4 (l.map lnF) := by simp
  refine Post_loop (I := fun i : Nat => ⟨[(0, .sl .sh (l.map lnF)), (4, .int .i64 i)], [], σ⟩) (Pr := fmtI l E) (μ := fun i => l.length - i) (a := 0) (by simp) ⟨by simp, by simpa using hE⟩ ?_
  rintro i ⟨hi, h2⟩
  have w1 : IntKind.i64.wrap ((i : Int) + 1) = (i : Int) + 1 := wrap64 (by omega)
  by_cases hc : i < l.length
  · obtain ⟨x, hx⟩ : ∃ x, l[i]? = some x := ⟨_, List.getElem?_eq_getElem hc⟩
    have hxs := h x (List.mem_of_getElem? hx)
    rw [fmtE_at hx] at h2
    have hC := rone_eq (l.take i) (by simp; omega) x ⟨by have := hxs.1; omega, by have := hxs.2.1; omega, by have := hxs.2.2; omega⟩
    rw [← htk] at hC
    obtain ⟨C, hCC⟩ : ∃ C, checkL (l.take i) x = C := ⟨_, rfl⟩
    have hL : lnE (l.take i) x = if x.2.1 ≠ 0 ∧ x.2.1 ≠ 1 then 7 else C := by rw [← hCC]; rfl
    rw [hCC] at hC
    have hfe : ∀ E, E ≠ 0 → fmtE [] l = E → fmtP l = ([], E) := fun E h0 he => by unfold fmtP; rw [he, if_pos h0]
    obtain ⟨⟨x1, x2⟩, x3, x4⟩ := x
    simp only at hL
    obtain ⟨L, hLL⟩ : ∃ L, l.map lnF = L := ⟨_, rfl⟩
    rw [lnFx] at hC
    have hxL : L[i]? = some (.agg [.str x1, .str x2, .int .i64 x3, .str x4]) := by rw [← hLL, List.getElem?_map, hx]; rfl
    rw [hLL] at hC hm hall ⊢
    by_cases k : x3 ≠ 0 ∧ x3 ≠ 1
    · obtain ⟨k0, k1⟩ := k
      rw [if_pos ⟨k0, k1⟩] at hL
      rw [hL, if_pos (by decide)] at h2
      have hp := hfe 7 (by decide) (by rw [hE, h2])
      simp (maxSteps := 4000000) [List.getElem?_cons_zero, List.getElem?_cons_succ, -getElem?_pos, -regionA_true, hc, hm, hxL, k0, k1, hp, Tryz.results26]
    · rw [if_neg k] at hL
      have k' : x3 = 0 ∨ x3 = 1 := by omega
      rw [hL] at h2
      by_cases hC0 : C = 0
      · subst hC0
        rw [if_neg (by simp)] at h2
        rcases k' with rfl | rfl
        · simp (maxSteps := 4000000) [List.getElem?_cons_zero, List.getElem?_cons_succ, -getElem?_pos, -regionA_true, hc, hm, hxL]
          refine Post_bndD [] _ (by rfl) (by simp (maxSteps := 4000000) [List.getElem?_cons_zero, List.getElem?_cons_succ, ]; exact rfl) ?_
          repeat (first
            | refine PostD_go _ (by rfl) (by rfl) (by simp (maxSteps := 4000000) [List.getElem?_cons_zero, List.getElem?_cons_succ, -getElem?_pos, hc, hm, hi, hall, hxL, hC]; exact rfl) (by first | exact .inl rfl | exact .inr rfl) (by rfl) ?_
            | refine PostD_no1 _ (by rfl) (by rfl) (by simp (maxSteps := 4000000) [List.getElem?_cons_zero, List.getElem?_cons_succ, ]; exact rfl) ?_)
          refine PostD_end ?_
          simp (maxSteps := 4000000) [List.getElem?_cons_zero, List.getElem?_cons_succ, -Prod.exists, -Prod.forall, w1]
          exact ⟨i + 1, ⟨by omega, h2⟩, by omega, by simp⟩
        · simp (maxSteps := 4000000) [List.getElem?_cons_zero, List.getElem?_cons_succ, -getElem?_pos, -regionA_true, hc, hm, hxL]
          refine Post_bndD [] _ (by rfl) (by simp (maxSteps := 4000000) [List.getElem?_cons_zero, List.getElem?_cons_succ, ]; exact rfl) ?_
          repeat (first
            | refine PostD_go _ (by rfl) (by rfl) (by simp (maxSteps := 4000000) [List.getElem?_cons_zero, List.getElem?_cons_succ, -getElem?_pos, hc, hm, hi, hall, hxL, hC]; exact rfl) (by first | exact .inl rfl | exact .inr rfl) (by rfl) ?_
            | refine PostD_no1 _ (by rfl) (by rfl) (by simp (maxSteps := 4000000) [List.getElem?_cons_zero, List.getElem?_cons_succ, ]; exact rfl) ?_)
          refine PostD_end ?_
          simp (maxSteps := 4000000) [List.getElem?_cons_zero, List.getElem?_cons_succ, -Prod.exists, -Prod.forall, w1]
          exact ⟨i + 1, ⟨by omega, h2⟩, by omega, by simp⟩
      · rw [if_pos hC0] at h2
        have hp := hfe C hC0 (by rw [hE, h2])
        rcases k' with rfl | rfl
        · simp (maxSteps := 4000000) [List.getElem?_cons_zero, List.getElem?_cons_succ, -getElem?_pos, -regionA_true, hc, hm, hxL]
          refine Post_bndD [] _ (by rfl) (by simp (maxSteps := 4000000) [List.getElem?_cons_zero, List.getElem?_cons_succ, ]; exact rfl) ?_
          repeat (first
            | refine PostD_go _ (by rfl) (by rfl) (by simp (maxSteps := 4000000) [List.getElem?_cons_zero, List.getElem?_cons_succ, -getElem?_pos, hc, hm, hi, hall, hxL, hC]; exact rfl) (by first | exact .inl rfl | exact .inr rfl) (by rfl) ?_
            | refine PostD_no1 _ (by rfl) (by rfl) (by simp (maxSteps := 4000000) [List.getElem?_cons_zero, List.getElem?_cons_succ, ]; exact rfl) ?_)
          refine PostD_end ?_
          simp (maxSteps := 4000000) [List.getElem?_cons_zero, List.getElem?_cons_succ, hC0, hp, Tryz.results26]
        · simp (maxSteps := 4000000) [List.getElem?_cons_zero, List.getElem?_cons_succ, -getElem?_pos, -regionA_true, hc, hm, hxL]
          refine Post_bndD [] _ (by rfl) (by simp (maxSteps := 4000000) [List.getElem?_cons_zero, List.getElem?_cons_succ, ]; exact rfl) ?_
          repeat (first
            | refine PostD_go _ (by rfl) (by rfl) (by simp (maxSteps := 4000000) [List.getElem?_cons_zero, List.getElem?_cons_succ, -getElem?_pos, hc, hm, hi, hall, hxL, hC]; exact rfl) (by first | exact .inl rfl | exact .inr rfl) (by rfl) ?_
            | refine PostD_no1 _ (by rfl) (by rfl) (by simp (maxSteps := 4000000) [List.getElem?_cons_zero, List.getElem?_cons_succ, ]; exact rfl) ?_)
          refine PostD_end ?_
          simp (maxSteps := 4000000) [List.getElem?_cons_zero, List.getElem?_cons_succ, hC0, hp, Tryz.results26]
  · have hE0 : fmtE [] l = 0 := by rw [hE, ← h2, List.drop_of_length_le (by omega)]; rfl
    have hO := rordered_eq l (by omega) (fun x hx => ⟨by have := (h x hx).1; omega, by have := (h x hx).2.1; omega⟩)
    have hp : fmtP l = if 65536 < (fmtT l).length then ([], 13) else (fmtT l, 0) := by unfold fmtP; rw [hE0, if_neg (by simp)]
    have hfT : fmtT l = (isrt lnC l).flatMap lnT := rfl
    have hs : ∀ x ∈ isrt lnC l, lnS x := fun x hx => h x (isrt_mem.1 hx)
    have hsl : (isrt lnC l).length = l.length := isrt_len l
    obtain ⟨L, hL⟩ : ∃ L, isrt lnC l = L := ⟨_, rfl⟩
    rw [hL] at hO hfT hs hsl
    simp (maxSteps := 4000000) [List.getElem?_cons_zero, List.getElem?_cons_succ, hc, hO]
    refine Post_loop (I := fun p : Nat × List UInt8 => ⟨[(0, .sl (.ex 82 4) (L.map lnF)), (6, .str p.2), (7, .int .i64 p.1)], [], σ⟩)
      (Pr := fun p => bufI L p.1 (some p.2)) (μ := fun p => l.length - p.1) (a := (0, [])) (by simp) ⟨by simp, by simp⟩ ?_
    rintro ⟨i, o⟩ ⟨hi, ho⟩
    simp only [txt_some] at hi ho ⊢
    have w1 : IntKind.i64.wrap ((i : Int) + 1) = (i : Int) + 1 := wrap64 (by omega)
    by_cases hc : i < l.length
    · obtain ⟨x, hx⟩ : ∃ x, L[i]? = some x := ⟨_, List.getElem?_eq_getElem (by omega)⟩
      have hxs := hs x (List.mem_of_getElem? hx)
      have ho' : o ++ lnT x = (L.take (i + 1)).flatMap lnT := by rw [ho, List.take_add_one, hx, List.flatMap_append]; simp
      have hol : o.length ≤ 128 * 2 ^ 22 := by
        have := lnT_flat (l := L.take i) fun x hx => hs x (List.mem_of_mem_take hx)
        rw [← ho] at this
        exact Nat.le_trans this (Nat.mul_le_mul_right _ (by simp; omega))
      obtain ⟨⟨x1, x2⟩, x3, x4⟩ := x
      obtain ⟨s1, s2, s3⟩ := hxs
      simp only at s1 s2 s3
      have hxL : (L.map lnF)[i]? = some (.agg [.str x1, .str x2, .int .i64 x3, .str x4]) := by rw [List.getElem?_map, hx]; rfl
      have hm : (L.map lnF).length = l.length := by simp [hsl]
      obtain ⟨LL, hLL⟩ : ∃ LL, L.map lnF = LL := ⟨_, rfl⟩
      rw [hLL] at hxL hm ⊢
      have b1 : o.length + x1.length ≤ most := by unfold most; omega
      have b2 : o.length + x1.length + 1 ≤ most := by unfold most; omega
      obtain ⟨t1, ht1⟩ : ∃ t, o ++ x1 = t := ⟨_, rfl⟩
      have l1 : t1.length = o.length + x1.length := by rw [← ht1]; simp
      obtain ⟨t2, ht2⟩ : ∃ t, t1 ++ [32] = t := ⟨_, rfl⟩
      have l2 : t2.length = o.length + x1.length + 1 := by rw [← ht2]; simp [l1]
      obtain ⟨t3, ht3⟩ : ∃ t, t2 ++ x2 = t := ⟨_, rfl⟩
      have l3 : t3.length = o.length + x1.length + 1 + x2.length := by rw [← ht3]; simp [l2]
      have c1 : t1.length + 1 ≤ most := by unfold most; omega
      have c2 : t2.length + x2.length ≤ most := by unfold most; omega
      by_cases hk : x3 = 1
      · subst hk
        obtain ⟨t4, ht4⟩ : ∃ t, t3 ++ [47, 103, 111, 46, 109, 111, 100] = t := ⟨_, rfl⟩
        have l4 : t4.length = o.length + x1.length + 1 + x2.length + 7 := by rw [← ht4]; simp [l3]
        obtain ⟨t5, ht5⟩ : ∃ t, t4 ++ [32] = t := ⟨_, rfl⟩
        have l5 : t5.length = o.length + x1.length + 1 + x2.length + 8 := by rw [← ht5]; simp [l4]
        obtain ⟨t6, ht6⟩ : ∃ t, t5 ++ x4 = t := ⟨_, rfl⟩
        have l6 : t6.length = o.length + x1.length + 1 + x2.length + 8 + x4.length := by rw [← ht6]; simp [l5]
        obtain ⟨t7, ht7⟩ : ∃ t, t6 ++ [10] = t := ⟨_, rfl⟩
        have c3 : t3.length + 7 ≤ most := by unfold most; omega
        have c4 : t4.length + 1 ≤ most := by unfold most; omega
        have c5 : t5.length + x4.length ≤ most := by unfold most; omega
        have c6 : t6.length + 1 ≤ most := by unfold most; omega
        have hfin : t7 = (L.take (i + 1)).flatMap lnT := by rw [← ho', ← ht7, ← ht6, ← ht5, ← ht4, ← ht3, ← ht2, ← ht1]; simp [lnT, goMod]
        simp (maxSteps := 4000000) [List.getElem?_cons_zero, List.getElem?_cons_succ, -getElem?_pos, -List.append_assoc, -regionA_true, hc, hm, hxL]
        refine Post_bndD [] _ (by rfl) (by simp (maxSteps := 4000000) [List.getElem?_cons_zero, List.getElem?_cons_succ, ]; exact rfl) ?_
        repeat (first
          | refine PostD_go _ (by rfl) (by rfl) (by simp (maxSteps := 4000000) [List.getElem?_cons_zero, List.getElem?_cons_succ, -getElem?_pos, -List.append_assoc, hc, hm, hxL, b1, c1, c2, ht1, ht2, ht3]; exact rfl) (by first | exact .inl rfl | exact .inr rfl) (by rfl) ?_
          | refine PostD_no1 _ (by rfl) (by rfl) (by simp (maxSteps := 4000000) [List.getElem?_cons_zero, List.getElem?_cons_succ, ]; exact rfl) ?_)
        refine PostD_end ?_
        simp (maxSteps := 4000000) [List.getElem?_cons_zero, List.getElem?_cons_succ, -getElem?_pos, -List.append_assoc, -Prod.exists, -Prod.forall, hc, hm, hxL, c3, c4, c5, c6, ht4, ht5, ht6, ht7, w1]
        exact ⟨(i + 1, t7), ⟨by simp; omega, by simpa using hfin⟩, by simp; omega, by simp⟩
      · obtain ⟨t5, ht5⟩ : ∃ t, t3 ++ [32] = t := ⟨_, rfl⟩
        have l5 : t5.length = o.length + x1.length + 1 + x2.length + 1 := by rw [← ht5]; simp [l3]
        obtain ⟨t6, ht6⟩ : ∃ t, t5 ++ x4 = t := ⟨_, rfl⟩
        have l6 : t6.length = o.length + x1.length + 1 + x2.length + 1 + x4.length := by rw [← ht6]; simp [l5]
        obtain ⟨t7, ht7⟩ : ∃ t, t6 ++ [10] = t := ⟨_, rfl⟩
        have c4 : t3.length + 1 ≤ most := by unfold most; omega
        have c5 : t5.length + x4.length ≤ most := by unfold most; omega
        have c6 : t6.length + 1 ≤ most := by unfold most; omega
        have hfin : t7 = (L.take (i + 1)).flatMap lnT := by rw [← ho', ← ht7, ← ht6, ← ht5, ← ht3, ← ht2, ← ht1]; simp [lnT, hk]
        simp (maxSteps := 4000000) [List.getElem?_cons_zero, List.getElem?_cons_succ, -getElem?_pos, -List.append_assoc, -regionA_true, hc, hm, hxL]
        refine Post_bndD [] _ (by rfl) (by simp (maxSteps := 4000000) [List.getElem?_cons_zero, List.getElem?_cons_succ, ]; exact rfl) ?_
        repeat (first
          | refine PostD_go _ (by rfl) (by rfl) (by simp (maxSteps := 4000000) [List.getElem?_cons_zero, List.getElem?_cons_succ, -getElem?_pos, -List.append_assoc, hc, hm, hxL, b1, c1, c2, ht1, ht2, ht3]; exact rfl) (by first | exact .inl rfl | exact .inr rfl) (by rfl) ?_
          | refine PostD_no1 _ (by rfl) (by rfl) (by simp (maxSteps := 4000000) [List.getElem?_cons_zero, List.getElem?_cons_succ, ]; exact rfl) ?_)
        refine PostD_end ?_
        simp (maxSteps := 4000000) [List.getElem?_cons_zero, List.getElem?_cons_succ, -getElem?_pos, -List.append_assoc, -Prod.exists, -Prod.forall, hc, hm, hxL, hk, c4, c5, c6, ht5, ht6, ht7, w1]
        exact ⟨(i + 1, t7), ⟨by simp; omega, by simpa using hfin⟩, by simp; omega, by simp⟩
    · rw [List.take_of_length_le (by omega), ← hfT] at ho
      rw [ho]
      by_cases hq : 65536 < (fmtT l).length
      · rw [if_pos hq] at hp
        simp (maxSteps := 4000000) [List.getElem?_cons_zero, List.getElem?_cons_succ, hc, hsl, hq, hp, Tryz.results26]
      · rw [if_neg hq] at hp
        simp (maxSteps := 4000000) [List.getElem?_cons_zero, List.getElem?_cons_succ, hc, hsl, hq, hp, Tryz.results26]
end Go.Proofs.Tryz.Ai
end
