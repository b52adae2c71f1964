/- Part 6 of a proof: a Go function is evaluated on abstract values (texts M6 .. M23); no conditions beyond those of each theorem. -/
import Derived.Test.YthdpejligoblbaaGreatDoorAi5
set_option linter.all false
set_option linter.unusedVariables false
set_option linter.unusedSimpArgs false
set_option linter.unnecessarySimpa false
section
/- mod: escapes. -/
namespace Go.Proofs.Tryz.Ai
open Go Go.AI Go.Proofs
set_option maxHeartbeats 2000000
set_option linter.unusedVariables false

theorem esc1_eq (c : UInt8) (σ) : ev 56 [.int .u8 c.toNat] σ = some (.bool (escQ c), σ) := by
  have h := high_eq c
  refine EV_post rfl Tryz.func56 rfl (by simp [Tryz.ntmps56]) (by kernel_rfl) (by kernel_rfl) ?_
  by_cases d : c = 33
  · simp (maxSteps := 4000000) [List.getElem?_cons_zero, List.getElem?_cons_succ, d, escQ, Tryz.results56]
  · simp (maxSteps := 4000000) [List.getElem?_cons_zero, List.getElem?_cons_succ, h, d, escQ, Tryz.results56]
theorem unesc1_eq (c : UInt8) (σ) : ev 62 [.int .u8 c.toNat] σ = some (.bool (isU c || isH c), σ) := by
  have h := high_eq c
  have h2 := upper_eq c
  refine EV_post rfl Tryz.func62 rfl (by simp [Tryz.ntmps62]) (by kernel_rfl) (by kernel_rfl) ?_
  by_cases d : isU c = true
  · simp (maxSteps := 4000000) [List.getElem?_cons_zero, List.getElem?_cons_succ, h2, d, Tryz.results62]
  · simp (maxSteps := 4000000) [List.getElem?_cons_zero, List.getElem?_cons_succ, h, h2, d, Tryz.results62]
theorem up_wrap {c : UInt8} (h : isU c = true) : IntKind.u8.wrap (IntKind.u8.wrap ((c.toNat : Int) - 65) + 97) = ((c + 32).toNat : Int) := by
  have h2 : 65 ≤ c.toNat ∧ c.toNat ≤ 90 := of_decide_eq_true h
  have h3 : (c + 32).toNat = c.toNat + 32 := by rw [UInt8.toNat_add]; simp; omega
  rw [wrapU8 (n := (c.toNat : Int) - 65) (by omega), wrapU8 (by omega), h3]; omega
theorem low_wrap {c : UInt8} (h : isL c = true) : IntKind.u8.wrap (IntKind.u8.wrap ((c.toNat : Int) - 97) + 65) = ((c - 32).toNat : Int) := by
  have h2 : 97 ≤ c.toNat ∧ c.toNat ≤ 122 := of_decide_eq_true h
  have h3 : (c - 32).toNat = c.toNat - 32 := by rw [UInt8.toNat_sub_of_le _ _ (by rw [UInt8.le_iff_toNat_le]; simp; omega)]; simp
  rw [wrapU8 (n := (c.toNat : Int) - 97) (by omega), wrapU8 (by omega), h3]; omega

theorem Escape_eq (s : List UInt8) (hl : s.length ≤ 2 ^ 30) (σ) : ev 18 [.str s] σ = some (.tup [.str (escR s).1, .int .i64 (escR s).2], σ) := by
  have h1 : ∀ σ, ev 55 [.str s, .fn 56 []] σ = some (.bool (escBad s), σ) := fun σ => some_eq s (by omega) 56 [] escQ (by decide) σ (fun c => esc1_eq c σ)
  have hw := fun (q : Option (List UInt8)) (c : UInt8) (h : (txt q).length + 1 ≤ most) => WriteByte_eq σ [] q h c
  have hs := fun (q : Option (List UInt8)) => String_eq σ [] q
  refine EV_post rfl Tryz.func18 rfl (by simp [Tryz.ntmps18]) (by kernel_rfl) (by kernel_rfl) ?_
  by_cases a1 : escBad s = true
  · have hr : escR s = ([], 15) := by unfold escR; rw [if_pos a1]
    simp (maxSteps := 4000000) [List.getElem?_cons_zero, List.getElem?_cons_succ, h1, a1, hr, Tryz.results18]
  · have hr : escR s = (escT s, 0) := by unfold escR; rw [if_neg a1]
    simp (maxSteps := 4000000) [List.getElem?_cons_zero, List.getElem?_cons_succ, h1, a1, hr]
    refine Post_loop (I := fun p : Nat × Option (List UInt8) => ⟨[(0, .str s), (4, .gp σ.length 0 (some (SB, 2))), (5, .int .i64 p.1)], [], σ ++ [bc σ.length p.2]⟩)
      (Pr := fun p => p.1 ≤ s.length ∧ txt p.2 = escT (s.take p.1)) (μ := fun p => s.length - p.1) (a := (0, none)) (by simp [bc, SB]) (by simp [escT]) ?_
    rintro ⟨i, q⟩ ⟨hi, hq⟩
    simp only at hi hq ⊢
    have hql : (txt q).length ≤ 2 ^ 32 := by rw [hq]; have := escT_len (s.take i); simp at this; omega
    by_cases hc : i < s.length
    · obtain ⟨c, hcx⟩ : ∃ c, s[i] = c := ⟨_, rfl⟩
      have hx : s[i]? = some c := by rw [← hcx]; exact List.getElem?_eq_getElem hc
      have hU := upper_eq c
      have e0 : IntKind.i64.wrap ((i : Int) + 1) = (i : Int) + 1 := wrap64 (by omega)
      have ht : escT (s.take (i + 1)) = escT (s.take i) ++ escC c := by rw [List.take_succ_eq_append_getElem hc, hcx]; simp [escT]
      by_cases u : isU c = true
      · have w1 := hw q 33 (by unfold most; omega)
        have w2 := hw (some (txt q ++ [33])) (c + 32) (by simp; unfold most; omega)
        have w0 := up_wrap u
        have ht2 : escC c = [33, c + 32] := by simp [escC, u]
        generalize c + 32 = d at w0 w2 ht2
        simp only [AV.u8] at w1 w2
        have w1' : ev 59 [.gp σ.length 0 (some (SB, 2)), .int .u8 33] (σ ++ [bc σ.length q]) = some (.nili, σ ++ [bc σ.length (some (txt q ++ [33]))]) := w1
        simp (maxSteps := 4000000) [List.getElem?_cons_zero, List.getElem?_cons_succ, -getElem?_pos, hc, hx, hU, u, w0, w1', w2, e0]
        refine ⟨i + 1, some (txt q ++ [33, d]), ⟨by omega, ?_⟩, by omega, by simp, by simp⟩
        rw [ht, ← hq, ht2]; simp
      · have w1 := hw q c (by unfold most; omega)
        simp only [AV.u8] at w1
        simp (maxSteps := 4000000) [List.getElem?_cons_zero, List.getElem?_cons_succ, -getElem?_pos, hc, hx, hU, u, w1, e0]
        refine ⟨i + 1, some (txt q ++ [c]), ⟨by omega, ?_⟩, by omega, by simp, by simp⟩
        rw [ht, ← hq]; simp [escC, u]
    · have hi' : i = s.length := by omega
      subst hi'
      rw [List.take_length] at hq
      simp (maxSteps := 4000000) [List.getElem?_cons_zero, List.getElem?_cons_succ, hs, hq, Tryz.results18]
end Go.Proofs.Tryz.Ai
end
section
/- mod: paths. -/
namespace Go.Proofs.Tryz.Ai
open Go Go.AI Go.Proofs
set_option maxHeartbeats 2000000
set_option linter.unusedVariables false

theorem HasPrefixL_eq (a b : List UInt8) (σ) : ev 125 [.str a, .str b] σ = some (.bool (b.isPrefixOf a), σ) := by
  refine EV_post rfl Tryz.func125 rfl (by simp [Tryz.ntmps125]) (by kernel_rfl) (by kernel_rfl) ?_
  by_cases hc : b.length ≤ a.length
  · have c1 : (b.length : Int) ≤ a.length := by omega
    have e : (a.take b.length == b) = b.isPrefixOf a := by
      rw [Bool.eq_iff_iff, List.isPrefixOf_iff_prefix, beq_iff_eq, List.prefix_iff_eq_take]
      exact ⟨fun h => h.symm, fun h => h.symm⟩
    simp (maxSteps := 4000000) [List.getElem?_cons_zero, List.getElem?_cons_succ, c1, hc, e, Tryz.results125]
  · have c1 : ¬ (b.length : Int) ≤ a.length := by omega
    have e : b.isPrefixOf a = false := by
      rw [Bool.eq_false_iff]
      intro h
      rw [List.isPrefixOf_iff_prefix] at h
      exact hc h.length_le
    simp (maxSteps := 4000000) [List.getElem?_cons_zero, List.getElem?_cons_succ, c1, hc, e, Tryz.results125]
theorem CutPrefix_eq (a b : List UInt8) (ha : a.length ≤ 2 ^ 40) (hb : b.length ≤ 2 ^ 40) (σ) : ev 73 [.str a, .str b] σ = some (.tup [.str (if b.isPrefixOf a then a.drop b.length else a), .bool (b.isPrefixOf a)], σ) := by
  have h0 : ∀ σ, ev 125 [.str a, .str b] σ = some (.bool (b.isPrefixOf a), σ) := HasPrefixL_eq a b
  have h1 : ∀ σ, ev 114 [.str a, .str b] σ = some (.tup [.str (if b.isPrefixOf a then a.drop b.length else a), .bool (b.isPrefixOf a)], σ) := by
    intro σ
    refine EV_post rfl Tryz.func114 rfl (by simp [Tryz.ntmps114]) (by kernel_rfl) (by kernel_rfl) ?_
    by_cases hc : b.isPrefixOf a = true
    · have hl : b.length ≤ a.length := (List.isPrefixOf_iff_prefix.1 hc).length_le
      have h2 : List.drop b.length (List.take a.length a) = a.drop b.length := by rw [List.take_length]
      rw [hc] at h0
      simp (maxSteps := 4000000) [List.getElem?_cons_zero, List.getElem?_cons_succ, h0, hc, hl, h2, Tryz.results114]
    · have hc : b.isPrefixOf a = false := Bool.eq_false_iff.2 hc
      rw [hc] at h0
      simp (maxSteps := 4000000) [List.getElem?_cons_zero, List.getElem?_cons_succ, h0, hc, Tryz.results114]
  refine EV_post rfl Tryz.func73 rfl (by simp [Tryz.ntmps73]) (by kernel_rfl) (by kernel_rfl) ?_
  simp (maxSteps := 4000000) [List.getElem?_cons_zero, List.getElem?_cons_succ, h1, Tryz.results73]
theorem lixI_eq (c : UInt8) (l : List UInt8) : lixI c l = match lix c l with
  | some n => (n : Int)
  | none => -1 := rfl
theorem SplitMajor_eq (p : List UInt8) (hp : p.length ≤ 2 ^ 39) (σ) : ev 24 [.str p] σ = some (.tup [.str (splitMB p).1, .int .i64 (splitMB p).2], σ) := by
  have h1 := LastIndex1_eq p (by omega) 47
  refine EV_post rfl Tryz.func24 rfl (by simp [Tryz.ntmps24]) (by kernel_rfl) (by kernel_rfl) ?_
  cases hx : lix 47 p with
  | none =>
    have e1 : lixI 47 p = -1 := by simp [lixI, hx]
    have e2 : splitMB p = (p, 0) := by simp [splitMB, hx]
    simp (maxSteps := 4000000) [List.getElem?_cons_zero, List.getElem?_cons_succ, h1, e1, e2, Tryz.results24]
  | some i =>
    have e1 : lixI 47 p = i := by simp [lixI, hx]
    have hi := (lix_some hx).1
    obtain ⟨q, hq⟩ : ∃ q, p.drop (i + 1) = q := ⟨_, rfl⟩
    have hql : q.length ≤ 2 ^ 39 := by rw [← hq]; simp; omega
    have w1 : IntKind.i64.wrap ((i : Int) + 1) = (i : Int) + 1 := wrap64 (by omega)
    have w2 : i + 1 ≤ p.length := by omega
    have w3 : i ≤ p.length := by omega
    have h2 := CutPrefix_eq q [118] (by omega) (by simp)
    have e2 : splitMB p = match majB q with
        | none => (p, 0)
        | some n => (p.take i, n) := by unfold splitMB; rw [hx]; simp only [hq]; cases majB q <;> rfl
    cases q with
    | nil =>
      have h3 := number_eq [] (by simp)
      have h4 : numB [] = none := by simp [numB, numOk, allB]
      have h6 : majB [] = none := rfl
      rw [h4] at h3
      rw [h6] at e2
      simp only [List.isPrefixOf, Bool.false_eq_true, if_false] at h2
      simp only at e2
      simp (maxSteps := 4000000) [List.getElem?_cons_zero, List.getElem?_cons_succ, h1, e1, e2, hq, w1, w2, h2, h3, Tryz.results24]
    | cons c r =>
      simp only [List.length_cons] at hql
      by_cases hc : c = 118
      · subst hc
        have h5 : List.isPrefixOf [(118 : UInt8)] (118 :: r) = true := by simp [List.isPrefixOf]
        rw [h5] at h2
        simp only [if_true, List.length_cons, List.length_nil, Nat.zero_add, List.drop_succ_cons, List.drop_zero] at h2
        have h3 := number_eq r (by omega)
        have h7 : majB (118 :: r) = match numB r with
            | none => none
            | some n => if n < 2 then none else some n := rfl
        cases hn : numB r with
        | none =>
          rw [hn] at h3 h7
          rw [h7] at e2
          simp only at e2
          simp (maxSteps := 4000000) [List.getElem?_cons_zero, List.getElem?_cons_succ, h1, e1, e2, hq, w1, w2, h2, h3, Tryz.results24]
        | some n =>
          rw [hn] at h3 h7
          simp only at h7
          by_cases h6 : n < 2
          · rw [if_pos h6] at h7
            rw [h7] at e2
            simp (maxSteps := 4000000) [List.getElem?_cons_zero, List.getElem?_cons_succ, h1, e1, e2, hq, w1, w2, h2, h3, h6, Tryz.results24]
          · rw [if_neg h6] at h7
            rw [h7] at e2
            simp (maxSteps := 4000000) [List.getElem?_cons_zero, List.getElem?_cons_succ, h1, e1, e2, hq, w1, w2, w3, h2, h3, h6, Tryz.results24]
      · have h5 : List.isPrefixOf [(118 : UInt8)] (c :: r) = false := by simp [List.isPrefixOf]; exact fun e => hc e.symm
        have h7 : majB (c :: r) = none := by simp [majB, hc]
        rw [h7] at e2
        rw [h5] at h2
        simp only [Bool.false_eq_true, if_false] at h2
        have h3 := number_eq (c :: r) (by simp; omega)
        simp (maxSteps := 4000000) [List.getElem?_cons_zero, List.getElem?_cons_succ, h1, e1, e2, hq, w1, w2, h2, h3, Tryz.results24]
theorem elements_eq (p o : List UInt8) (hp : p.length ≤ 2 ^ 39) (b : Nat) (sh) (σ : List (List AV)) (hb : σ[b]? = some [.str o]) : ev 67 [.str p, .fn 109 [.gp b 0 sh]] σ = some (.bool (elemsB o p), σ) := by
  have hS := Split1_eq p hp 47
  obtain ⟨L, hL⟩ : ∃ L, splitB 47 p = L := ⟨_, rfl⟩
  have hm : ∀ x ∈ L, x.length ≤ 2 ^ 39 := fun x hx => Nat.le_trans (splitB_le (hL ▸ hx)) hp
  have hn : L.length ≤ 2 ^ 40 := by rw [← hL]; have := splitB_many 47 p; omega
  have hAll : elemsB o p = L.all (elemB o) := by unfold elemsB; rw [hL]
  rw [hL] at hS
  refine EV_post rfl Tryz.func67 rfl (by simp [Tryz.ntmps67]) (by kernel_rfl) (by kernel_rfl) ?_
  simp (maxSteps := 4000000) [List.getElem?_cons_zero, List.getElem?_cons_succ, hS]
  refine Post_loop (I := fun i : Nat => ⟨[(1, .fn 109 [.gp b 0 sh]), (8, .sl (.ex 9 1) (L.map .str)), (9, .int .i64 L.length), (10, .int .i64 i)], [], σ⟩) (Pr := fun i => i ≤ L.length ∧ ∀ x ∈ L.take i, elemB o x = true) (μ := fun i => L.length - i) (a := 0) (by simp) (by simp) ?_
  rintro i ⟨hi, ha⟩
  by_cases hc : i < L.length
  · obtain ⟨x, hx⟩ : ∃ x, L[i] = x := ⟨_, rfl⟩
    have hx2 : L[i]? = some x := by rw [← hx]; exact List.getElem?_eq_getElem hc
    have hxl := hm x (hx ▸ List.getElem_mem hc)
    have h1 := allW_eq x o (by omega) b sh σ hb
    have w6 : IntKind.i64.wrap ((i : Int) + 1) = (i : Int) + 1 := wrap64 (by omega)
    have bad : elemB o x = false → elemsB o p = false := fun e => by rw [hAll, Bool.eq_false_iff]; intro h; have := List.all_eq_true.1 h _ (hx ▸ List.getElem_mem hc); rw [e] at this; cases this
    by_cases hA : allB (wordB o) x = true
    · obtain ⟨c, r, hcr⟩ : ∃ c r, x = c :: r := by cases x with
        | nil => simp [allB] at hA
        | cons c r => exact ⟨c, r, rfl⟩
      have g0 : x[0]? = some c := by rw [hcr]; rfl
      have hlen : x.length = r.length + 1 := by rw [hcr]; simp
      obtain ⟨d, hd⟩ : ∃ d, x[r.length]? = some d := ⟨_, List.getElem?_eq_getElem (by omega)⟩
      have hlast : x.getLast? = some d := by rw [List.getLast?_eq_getElem?, hlen]; simpa using hd
      have hhead : x.head? = some c := by rw [hcr]; rfl
      have w7 : IntKind.i64.wrap ((x.length : Int) - 1) = (r.length : Int) := by rw [wrap64 (by omega)]; omega
      by_cases e1 : c = 46
      · have hf := bad (by simp [elemB, hhead, e1])
        subst e1
        simp (maxSteps := 4000000) [List.getElem?_cons_zero, List.getElem?_cons_succ, -getElem?_pos, hc, hx2, h1, hA, g0, hf, Tryz.results67]
      · by_cases e2 : d = 46
        · have hf := bad (by simp [elemB, hlast, e2])
          subst e2
          simp (maxSteps := 4000000) [List.getElem?_cons_zero, List.getElem?_cons_succ, -getElem?_pos, hc, hx2, h1, hA, g0, e1, w7, hd, hf, Tryz.results67]
        · have hq : elemB o x = true := by simp [elemB, hA, hhead, hlast, e1, e2]
          simp (maxSteps := 4000000) [List.getElem?_cons_zero, List.getElem?_cons_succ, -getElem?_pos, hc, hx2, h1, hA, g0, e1, w7, hd, e2, w6]
          exact ⟨i + 1, ⟨by omega, take_all hc ha (by rw [hx]; exact hq)⟩, by omega, by simp⟩
    · have hf := bad (by simp [elemB, hA])
      simp (maxSteps := 4000000) [List.getElem?_cons_zero, List.getElem?_cons_succ, -getElem?_pos, hc, hx2, h1, hA, hf, Tryz.results67]
  · have hi' : i = L.length := by omega
    subst hi'
    rw [List.take_length] at ha
    have ht : elemsB o p = true := by rw [hAll]; exact List.all_eq_true.2 ha
    simp (maxSteps := 4000000) [List.getElem?_cons_zero, List.getElem?_cons_succ, ht, Tryz.results67]
theorem odd_eq (c : UInt8) (σ) : ev 66 [.int .u8 c.toNat] σ = some (.bool (oddB c), σ) := by
  have h := upper_eq c
  refine EV_post rfl Tryz.func66 rfl (by simp [Tryz.ntmps66]) (by kernel_rfl) (by kernel_rfl) ?_
  by_cases d : isU c = true
  · simp (maxSteps := 4000000) [List.getElem?_cons_zero, List.getElem?_cons_succ, h, d, oddB, Tryz.results66]
  · by_cases e : c = 95
    · subst e
      have h' : ∀ σ, ev 58 [.int .u8 95] σ = some (.bool false, σ) := fun σ => upper_eq 95 σ
      simp (maxSteps := 4000000) [List.getElem?_cons_zero, List.getElem?_cons_succ, h', oddB, Tryz.results66]
    · simp (maxSteps := 4000000) [List.getElem?_cons_zero, List.getElem?_cons_succ, h, d, e, oddB, Tryz.results66]
theorem CheckImport_eq (p : List UInt8) (hp : p.length ≤ 2 ^ 39) (σ) : ev 28 [.str p] σ = some (.int .i64 (importB p), σ) := by
  have hw : ev 68 [.str [45, 46, 95, 126, 43]] σ = some (.fn 109 [.gp σ.length 0 (some (9, 1))], σ ++ [[.str [45, 46, 95, 126, 43]]]) := word_eq _ σ
  have he := elements_eq p [45, 46, 95, 126, 43] hp σ.length (some (9, 1)) (σ ++ [[.str [45, 46, 95, 126, 43]]]) (by simp)
  refine EV_post rfl Tryz.func28 rfl (by simp [Tryz.ntmps28]) (by kernel_rfl) (by kernel_rfl) ?_
  by_cases h : 100 < p.length
  · have e1 : importB p = 13 := by simp [importB, h]
    simp (maxSteps := 4000000) [List.getElem?_cons_zero, List.getElem?_cons_succ, h, e1, Tryz.results28]
  · by_cases e : elemsB [45, 46, 95, 126, 43] p = true
    · have e1 : importB p = 0 := by simp [importB, h, e]
      simp (maxSteps := 4000000) [List.getElem?_cons_zero, List.getElem?_cons_succ, h, hw, he, e, e1, Tryz.results28]
    · have e : elemsB [45, 46, 95, 126, 43] p = false := by simpa using e
      have e1 : importB p = 9 := by simp [importB, h, e]
      simp (maxSteps := 4000000) [List.getElem?_cons_zero, List.getElem?_cons_succ, h, hw, he, e, e1, Tryz.results28]
theorem firstOdd_def (l : List UInt8) : ∃ b, l.any oddB = b := ⟨_, rfl⟩
theorem CheckPath_eq (p : List UInt8) (hp : p.length ≤ 2 ^ 39) (σ) : ev 23 [.str p] σ = some (.int .i64 (pathB p), σ) := by
  have hw : ev 68 [.str [45, 46, 95, 126]] σ = some (.fn 109 [.gp σ.length 0 (some (9, 1))], σ ++ [[.str [45, 46, 95, 126]]]) := word_eq _ σ
  have he := elements_eq p [45, 46, 95, 126] hp σ.length (some (9, 1)) (σ ++ [[.str [45, 46, 95, 126]]]) (by simp)
  have hcl := cutB_le 47 p
  have hlm := lastB_mem p
  have hlx := lixI_eq 47 p
  have hC := Cut1_eq p (by omega) 47
  have hL := LastIndex1_eq p (by omega) 47
  have hM := SplitMajor_eq p hp
  have hlb : lastB p = match lix 47 p with
      | some n => p.drop (n + 1)
      | none => p := rfl
  refine EV_post rfl Tryz.func23 rfl (by simp [Tryz.ntmps23]) (by kernel_rfl) (by kernel_rfl) ?_
  by_cases h : 100 < p.length
  · have e1 : pathB p = 13 := by simp [pathB, h]
    simp (maxSteps := 4000000) [List.getElem?_cons_zero, List.getElem?_cons_succ, h, e1, Tryz.results23]
  · obtain ⟨⟨f, g, more⟩, hk⟩ : ∃ x, cutB 47 p = x := ⟨_, rfl⟩
    obtain ⟨⟨sm, n⟩, hk2⟩ : ∃ x, splitMB p = x := ⟨_, rfl⟩
    rw [hk] at hC hcl
    rw [hk2] at hM
    simp only at hC hcl hM
    have hf1 := Contains1_eq f 46
    obtain ⟨od, hod⟩ := firstOdd_def f
    have hf2 := fun σ => some_eq f (by omega) 66 [] oddB (by decide) σ (fun c => odd_eq c σ)
    rw [hod] at hf2
    by_cases e : elemsB [45, 46, 95, 126] p = true
    · rw [e] at he
      by_cases e2 : 46 ∈ f
      · obtain ⟨c, r, hcr⟩ : ∃ c r, f = c :: r := by cases f with
          | nil => simp at e2
          | cons c r => exact ⟨c, r, rfl⟩
        have g0 : f[0]? = some c := by rw [hcr]; rfl
        have hh : f.head? = some c := by rw [hcr]; rfl
        cases od with
        | true =>
          have e1 : pathB p = 9 := by simp only [pathB, if_neg h, hk]; rw [if_pos (.inr (.inr (.inl hod)))]
          simp (maxSteps := 4000000) [List.getElem?_cons_zero, List.getElem?_cons_succ, h, hw, he, hC, hf1, e2, hf2, e1, Tryz.results23]
        | false =>
          by_cases e3 : c = 45
          · have e1 : pathB p = 9 := by simp only [pathB, if_neg h, hk]; rw [if_pos (.inr (.inr (.inr (by rw [hh, e3]))))]
            subst e3
            simp (maxSteps := 4000000) [List.getElem?_cons_zero, List.getElem?_cons_succ, -getElem?_pos, h, hw, he, hC, hf1, e2, hf2, g0, e1, Tryz.results23]
          · have hfin : pathB p = if more = true ∧ (lastB p).head? = some 118 ∧ allB isD (lastB p).tail = true ∧ n = 0 then 10 else 0 := by
              simp only [pathB, if_neg h, hk, hk2]; rw [if_neg (by simp [e, e2, hod, hh, e3])]
            obtain ⟨q, hq⟩ : ∃ q, lastB p = q := ⟨_, rfl⟩
            rw [hq] at hfin hlm hlb
            have hqe : elemB [45, 46, 95, 126] q = true := List.all_eq_true.1 e q hlm
            obtain ⟨d, t, hdt⟩ : ∃ d t, q = d :: t := by cases q with
              | nil => simp [elemB, allB] at hqe
              | cons c r => exact ⟨c, r, rfl⟩
            have hql : q.length ≤ 2 ^ 39 := by have := splitB_le hlm; omega
            have hx1 : ∃ m : Nat, IntKind.i64.wrap (lixI 47 p + 1) = (m : Int) ∧ m ≤ p.length ∧ List.drop m p = q := by
              cases hx : lix 47 p with
              | none =>
                rw [hx] at hlx hlb
                simp only at hlx hlb
                exact ⟨0, by rw [hlx]; decide, by omega, by rw [hlb]; rfl⟩
              | some i =>
                rw [hx] at hlx hlb
                simp only at hlx hlb
                have := (lix_some hx).1
                exact ⟨i + 1, by rw [hlx, wrap64 (by omega)]; omega, by omega, by rw [hlb]⟩
            obtain ⟨m, hm1, hm2, hm3⟩ := hx1
            have g1 : q[0]? = some d := by rw [hdt]; rfl
            have g2 : q.tail = t := by rw [hdt]; rfl
            have g3 : 1 ≤ q.length := by rw [hdt]; simp
            have hD := allD_eq t (by rw [hdt] at hql; simp at hql; omega)
            have h7 : q.head? = some d := by rw [hdt]; rfl
            have h8 : q.tail = t := by rw [hdt]; rfl
            rw [h7, h8] at hfin
            cases more with
            | false =>
              have e1 : pathB p = 0 := by rw [hfin, if_neg (by simp)]
              simp (maxSteps := 4000000) [List.getElem?_cons_zero, List.getElem?_cons_succ, -getElem?_pos, h, hw, he, hC, hf1, e2, hf2, g0, e3, hL, hm1, hm2, hm3, hM, e1, Tryz.results23]
            | true =>
              by_cases e4 : d = 118
              · by_cases e5 : allB isD t = true
                · by_cases e6 : n = 0
                  · have e1 : pathB p = 10 := by rw [hfin, if_pos (by simp [e4, e5, e6])]
                    subst e4 e6
                    simp (maxSteps := 4000000) [List.getElem?_cons_zero, List.getElem?_cons_succ, -getElem?_pos, h, hw, he, hC, hf1, e2, hf2, g0, e3, hL, hm1, hm2, hm3, hM, g1, g2, g3, hD, e5, e1, Tryz.results23]
                  · have e1 : pathB p = 0 := by rw [hfin, if_neg (by simp [e6])]
                    subst e4
                    simp (maxSteps := 4000000) [List.getElem?_cons_zero, List.getElem?_cons_succ, -getElem?_pos, h, hw, he, hC, hf1, e2, hf2, g0, e3, hL, hm1, hm2, hm3, hM, g1, g2, g3, hD, e5, e6, e1, Tryz.results23]
                · have e1 : pathB p = 0 := by rw [hfin, if_neg (by simp [e5])]
                  subst e4
                  simp (maxSteps := 4000000) [List.getElem?_cons_zero, List.getElem?_cons_succ, -getElem?_pos, h, hw, he, hC, hf1, e2, hf2, g0, e3, hL, hm1, hm2, hm3, hM, g1, g2, g3, hD, e5, e1, Tryz.results23]
              · have e1 : pathB p = 0 := by rw [hfin, if_neg (by simp [e4])]
                simp (maxSteps := 4000000) [List.getElem?_cons_zero, List.getElem?_cons_succ, -getElem?_pos, h, hw, he, hC, hf1, e2, hf2, g0, e3, hL, hm1, hm2, hm3, hM, g1, e4, e1, Tryz.results23]
      · have e1 : pathB p = 9 := by simp only [pathB, if_neg h, hk]; rw [if_pos (.inr (.inl e2))]
        simp (maxSteps := 4000000) [List.getElem?_cons_zero, List.getElem?_cons_succ, h, hw, he, hC, hf1, e2, e1, Tryz.results23]
    · have e : elemsB [45, 46, 95, 126] p = false := by simpa using e
      have e1 : pathB p = 9 := by simp only [pathB, if_neg h, hk]; rw [if_pos (.inl e)]
      simp (maxSteps := 4000000) [List.getElem?_cons_zero, List.getElem?_cons_succ, h, hw, he, hC, e, e1, Tryz.results23]
theorem Matches_eq (v p : List UInt8) (hv : v.length ≤ 2 ^ 39) (hp : p.length ≤ 2 ^ 39) (σ) : ev 27 [.str v, .str p] σ = some (.bool (matchesB v p), σ) := by
  have h1 := read_eq v hv
  have h2 := SplitMajor_eq p hp
  obtain ⟨⟨sm, n⟩, hk2⟩ : ∃ x, splitMB p = x := ⟨_, rfl⟩
  rw [hk2] at h2
  refine EV_post rfl Tryz.func27 rfl (by simp [Tryz.ntmps27]) (by kernel_rfl) (by kernel_rfl) ?_
  cases e1 : readB v with
  | none =>
    rw [e1] at h1
    have h4 : matchesB v p = false := by simp [matchesB, e1]
    simp (maxSteps := 4000000) [List.getElem?_cons_zero, List.getElem?_cons_succ, h1, h2, h4, verA, Tryz.results27]
  | some x =>
    rw [e1] at h1
    have h4 : matchesB v p = (decide (x.ma = n) || (decide (n = 0) && decide (x.ma = 1))) := by simp [matchesB, e1, hk2]
    by_cases d1 : x.ma = n
    · simp (maxSteps := 4000000) [List.getElem?_cons_zero, List.getElem?_cons_succ, h1, h2, h4, d1, verA, Tryz.results27]
    · by_cases d2 : n = 0
      · subst d2
        simp (maxSteps := 4000000) [List.getElem?_cons_zero, List.getElem?_cons_succ, h1, h2, h4, d1, verA, Tryz.results27]
      · simp (maxSteps := 4000000) [List.getElem?_cons_zero, List.getElem?_cons_succ, h1, h2, h4, d1, d2, verA, Tryz.results27]
end Go.Proofs.Tryz.Ai
end
section
/- mewslaw3: first, few. -/
namespace Go.Proofs.Tryz.Ai
open Go Go.AI Go.Proofs
set_option maxHeartbeats 4000000
set_option linter.unusedVariables false

theorem Num_eq (e : Int) (σ) : ev 22 [.int .i64 e] σ = some (.int .i64 e, σ) := by
  refine EV_post rfl Tryz.func22 rfl (by simp [Tryz.ntmps22]) (by kernel_rfl) (by kernel_rfl) ?_
  simp [Tryz.results22]
theorem few_eq (l : List (List UInt8)) (σ) : ev 14 [.sl .sh (l.map .str)] σ = some (.bool (decide (l.length ≤ 60) && l.all fun s => decide (s.length ≤ 2000)), σ) := by
  refine EV_post rfl Tryz.func14 rfl (by simp [Tryz.ntmps14]) (by kernel_rfl) (by kernel_rfl) ?_
  simp (maxSteps := 4000000) (disch := omega) [dT, dF, wrap64]
  refine Post_loop (I := fun i : Nat => ⟨[(0, .sl .sh (l.map .str)), (3, .int .i64 i)], [], σ⟩) (Pr := fun i => i ≤ l.length ∧ i ≤ 61 ∧ ∀ x ∈ l.take i, x.length ≤ 2000) (μ := fun i => l.length - i) (a := 0) (by simp) (by simp) ?_
  rintro i ⟨hi, hj, hn⟩
  by_cases hc : i < l.length
  · obtain ⟨x, hx⟩ : ∃ x, l[i] = x := ⟨_, rfl⟩
    have hx2 : l[i]? = some x := by rw [← hx]; exact List.getElem?_eq_getElem hc
    by_cases hd : i ≤ 60
    · by_cases he : 2000 < x.length
      · have hf : (l.all fun s => decide (s.length ≤ 2000)) = false := by
          rw [Bool.eq_false_iff]; intro h
          have := List.all_eq_true.1 h x (hx ▸ List.getElem_mem hc)
          simp at this; omega
        simp (maxSteps := 4000000) [List.getElem?_cons_zero, List.getElem?_cons_succ, -getElem?_pos, hc, hd, hx2, he, hf, Tryz.results14]
      · have w6 : IntKind.i64.wrap ((i : Int) + 1) = (i : Int) + 1 := wrap64 (by omega)
        have hq : ∀ y ∈ l.take (i + 1), y.length ≤ 2000 := by
          intro y hy
          rw [List.take_succ_eq_append_getElem hc, List.mem_append] at hy
          rcases hy with hy | hy
          · exact hn y hy
          · simp at hy; rw [hy, hx]; omega
        simp (maxSteps := 4000000) [List.getElem?_cons_zero, List.getElem?_cons_succ, -getElem?_pos, hc, hd, hx2, he, w6]
        exact ⟨i + 1, ⟨by omega, by omega, hq⟩, by omega, by simp⟩
    · have hl : ¬ l.length ≤ 60 := by omega
      simp (maxSteps := 4000000) [List.getElem?_cons_zero, List.getElem?_cons_succ, hc, hd, hl, Tryz.results14]
  · have hi' : i = l.length := by omega
    subst hi'
    rw [List.take_length] at hn
    have hf : (l.all fun s => decide (s.length ≤ 2000)) = true := List.all_eq_true.2 fun s hs => by simp [hn s hs]
    simp (maxSteps := 4000000) [List.getElem?_cons_zero, List.getElem?_cons_succ, hc, hf, Tryz.results14]

theorem d1 (n : Nat) (h : n < 10) : Lib.decDigits n = [UInt8.ofNat (48 + n)] := Lib.decDigits_one h
theorem pseudo_const : pseudoB 1 [118, 49, 46, 50, 46, 51] [50, 48, 50, 48, 48, 49, 48, 50, 48, 51, 48, 52, 48, 53] [97, 98, 99, 100, 101, 102, 97, 98, 99, 100, 101, 102] =
    ([118, 49, 46, 50, 46, 52, 45, 48, 46, 50, 48, 50, 48, 48, 49, 48, 50, 48, 51, 48, 52, 48, 53, 45, 97, 98, 99, 100, 101, 102, 97, 98, 99, 100, 101, 102], 0) := by
  have hb : readB [118, 49, 46, 50, 46, 51] = some ⟨1, 2, 3, []⟩ := by decide +kernel
  have hs : stampB [50, 48, 50, 48, 48, 49, 48, 50, 48, 51, 48, 52, 48, 53] = true := by decide +kernel
  have hr : revB [97, 98, 99, 100, 101, 102, 97, 98, 99, 100, 101, 102] = true := by decide +kernel
  have ht : pseudoT (Int.toNat 1) [118, 49, 46, 50, 46, 51] ([50, 48, 50, 48, 48, 49, 48, 50, 48, 51, 48, 52, 48, 53] ++ 45 :: [97, 98, 99, 100, 101, 102, 97, 98, 99, 100, 101, 102]) =
      [118, 49, 46, 50, 46, 52, 45, 48, 46, 50, 48, 50, 48, 48, 49, 48, 50, 48, 51, 48, 52, 48, 53, 45, 97, 98, 99, 100, 101, 102, 97, 98, 99, 100, 101, 102] := by
    unfold pseudoT
    rw [hb]
    simp [coreT, d1]
  have hv : (readB [118, 49, 46, 50, 46, 52, 45, 48, 46, 50, 48, 50, 48, 48, 49, 48, 50, 48, 51, 48, 52, 48, 53, 45, 97, 98, 99, 100, 101, 102, 97, 98, 99, 100, 101, 102]).isSome = true := by decide +kernel
  unfold pseudoB
  rw [if_neg (by omega), if_neg (by simp [hs, hr]), if_neg (by simp [hb])]
  simp only [ht, hv, if_true]
theorem first_eq (σ) : ev 13 [] σ = some (.bool true, σ) := by
  have h1 : ∀ σ, ev 35 [.int .i64 1, .str [118, 49, 46, 50, 46, 51], .str [50, 48, 50, 48, 48, 49, 48, 50, 48, 51, 48, 52, 48, 53], .str [97, 98, 99, 100, 101, 102, 97, 98, 99, 100, 101, 102]] σ =
      some (.tup [.str [118, 49, 46, 50, 46, 52, 45, 48, 46, 50, 48, 50, 48, 48, 49, 48, 50, 48, 51, 48, 52, 48, 53, 45, 97, 98, 99, 100, 101, 102, 97, 98, 99, 100, 101, 102], .int .i64 0], σ) := by
    intro σ; rw [pseudo_eq _ _ _ _ (by simp) (by simp) (by simp), pseudo_const]; rfl
  have h2 : ∀ σ, ev 18 [.str [97, 46, 98, 47, 67, 100]] σ = some (.tup [.str [97, 46, 98, 47, 33, 99, 100], .int .i64 0], σ) := by
    intro σ; rw [Escape_eq _ (by simp), show escR [97, 46, 98, 47, 67, 100] = ([97, 46, 98, 47, 33, 99, 100], 0) by decide +kernel]; rfl
  have h3 : ∀ σ, ev 16 [.str [118, 49, 46, 50, 46, 51]] σ = some (.bool true, σ) := by
    intro σ; rw [Valid_eq _ (by simp), show (readB [118, 49, 46, 50, 46, 51]).isSome = true by decide +kernel]
  have h4 : ∀ σ, ev 16 [.str [118, 49, 46, 50]] σ = some (.bool false, σ) := by
    intro σ; rw [Valid_eq _ (by simp), show (readB [118, 49, 46, 50]).isSome = false by decide +kernel]
  have h5 : ∀ σ, ev 15 [.str [118, 49, 46, 50, 46, 51], .str [118, 49, 46, 49, 48, 46, 48]] σ = some (.int .i64 (-1), σ) := by
    intro σ; rw [cmpB_eq _ _ (by simp) (by simp), show cmpB [118, 49, 46, 50, 46, 51] [118, 49, 46, 49, 48, 46, 48] = -1 by decide +kernel]
  have h6 : ∀ σ, ev 23 [.str [97, 46, 98, 47, 118, 49]] σ = some (.int .i64 10, σ) := by
    intro σ; rw [CheckPath_eq _ (by simp), show pathB [97, 46, 98, 47, 118, 49] = 10 by decide +kernel]; rfl
  refine EV_post rfl Tryz.func13 rfl (by simp [Tryz.ntmps13]) (by kernel_rfl) (by kernel_rfl) ?_
  simp (maxSteps := 4000000) [List.getElem?_cons_zero, List.getElem?_cons_succ, h1, h2, h3, h4, h5, h6, Num_eq, Tryz.results13]
end Go.Proofs.Tryz.Ai
end
section
/- mewsref3: versions are read as the document says. -/
namespace Go.AI
theorem Post_mono {x : Option (Ex × St)} {K1 K : Ex → St → Prop} (h : Post x K1) (k : ∀ e s, K1 e s → K e s) : Post x K := by
  obtain ⟨e, s, h1, h2⟩ := h; exact ⟨e, s, h1, k e s h2⟩
end Go.AI
namespace Go.Proofs.Tryz.Ai
open Go Go.AI Go.Proofs
set_option maxHeartbeats 2000000
set_option linter.unusedVariables false

theorem rdigits_eq (s : List UInt8) (hl : s.length ≤ 2 ^ 40) (σ) : ev 80 [.str s] σ = some (.bool (allB isD s), σ) := by
  have hp := fun c σ => rdigit_eq c σ
  refine EV_post rfl Tryz.func80 rfl (by simp [Tryz.ntmps80]) (by kernel_rfl) (by kernel_rfl) ?_
  unfold allB
  simp (maxSteps := 4000000) (disch := omega) [dT, dF, wrap64]
  refine Post_loop (I := fun i : Nat => ⟨[(0, .str s), (3, .int .i64 i)], [], σ⟩) (Pr := fun i => i ≤ s.length ∧ ∀ x ∈ s.take i, isD x = true) (μ := fun i => s.length - i) (a := 0) (by simp) (by simp) ?_
  rintro i ⟨hi, hn⟩
  by_cases hc : i < s.length
  · by_cases hq : isD s[i] = true
    · simp (maxSteps := 4000000) (disch := omega) [dT, dF, wrap64, hc, hp, hq]
      refine ⟨i + 1, ⟨by omega, ?_⟩, by omega, by simp⟩
      exact take_all hc hn hq
    · have hq' : isD s[i] = false := by simpa using hq
      have h2 : s.all isD = false := by
        rw [Bool.eq_false_iff]; intro h; exact hq (List.all_eq_true.1 h _ (List.getElem_mem hc))
      simp (maxSteps := 4000000) (disch := omega) [dT, dF, wrap64, hc, hp, hq', h2, Tryz.results80]
  · have hi' : i = s.length := by omega
    subst hi'
    rw [List.take_length] at hn
    have h2 : s.all isD = true := List.all_eq_true.2 hn
    cases s with
    | nil => simp (maxSteps := 4000000) (disch := omega) [dT, dF, wrap64, Tryz.results80]
    | cons a r => simp (maxSteps := 4000000) (disch := omega) [dT, dF, wrap64, hc, h2, Tryz.results80]
theorem rnumber_eq (s : List UInt8) (hl : s.length ≤ 2 ^ 40) (σ) : ev 93 [.str s] σ = some (.bool (numOk s), σ) := by
  have hd := rdigits_eq s hl
  refine EV_post rfl Tryz.func93 rfl (by simp [Tryz.ntmps93]) (by kernel_rfl) (by kernel_rfl) ?_
  by_cases h1 : allB isD s = true
  · obtain ⟨c, r, hcr⟩ : ∃ c r, s = c :: r := by cases s with
      | nil => simp [allB] at h1
      | cons c r => exact ⟨c, r, rfl⟩
    by_cases h2 : s.length ≤ 9
    · have g0 : s[0]? = some c := by rw [hcr]; rfl
      have h4 : numOk s = plainB s := by simp [numOk, h1, h2]
      by_cases h3 : s = [48]
      · subst h3
        simp (maxSteps := 4000000) [List.getElem?_cons_zero, List.getElem?_cons_succ, hd, h1, numOk, plainB, Tryz.results93]
      · have h3' : (s == [48]) = false := by simpa using h3
        by_cases h5 : c = 48
        · have h6 : plainB s = false := by
            rw [hcr, h5]; simp [plainB]; rintro rfl; exact h3 (by rw [hcr, h5])
          subst h5
          simp (maxSteps := 4000000) [List.getElem?_cons_zero, List.getElem?_cons_succ, -getElem?_pos, hd, h1, h2, h3', g0, h4, h6, Tryz.results93]
        · have h6 : plainB s = true := by rw [hcr]; simp [plainB, h5]
          simp (maxSteps := 4000000) [List.getElem?_cons_zero, List.getElem?_cons_succ, -getElem?_pos, hd, h1, h2, h3', g0, h5, h4, h6, Tryz.results93]
    · have h4 : numOk s = false := by simp [numOk, h2]
      simp (maxSteps := 4000000) [List.getElem?_cons_zero, List.getElem?_cons_succ, hd, h1, h2, h4, Tryz.results93]
  · have h4 : numOk s = false := by simp [numOk, h1]
    simp (maxSteps := 4000000) [List.getElem?_cons_zero, List.getElem?_cons_succ, hd, h1, h4, Tryz.results93]
theorem ridentifier_eq (s : List UInt8) (hl : s.length ≤ 2 ^ 40) (σ) : ev 94 [.str s] σ = some (.bool (idB s), σ) := by
  have hd := rdigits_eq s hl
  refine EV_post rfl Tryz.func94 rfl (by simp [Tryz.ntmps94]) (by kernel_rfl) (by kernel_rfl) ?_
  simp (maxSteps := 4000000) (disch := omega) [dT, dF, wrap64]
  refine Post_loop (I := fun i : Nat => ⟨[(0, .str s), (3, .int .i64 i)], [], σ⟩) (Pr := fun i => i ≤ s.length ∧ ∀ x ∈ s.take i, wordB [45] x = true) (μ := fun i => s.length - i) (a := 0) (by simp) (by simp) ?_
  rintro i ⟨hi, hn⟩
  by_cases hc : i < s.length
  · obtain ⟨c, hcx⟩ : ∃ c, s[i] = c := ⟨_, rfl⟩
    have hx : s[i]? = some c := by rw [← hcx]; exact List.getElem?_eq_getElem hc
    have e0 : IntKind.i64.wrap ((i : Int) + 1) = (i : Int) + 1 := wrap64 (by omega)
    have q1 := rdigit_eq c
    have q2 := rlower_eq c
    have q3 := rupper_eq c
    have go : wordB [45] c = true → ∀ x ∈ s.take (i + 1), wordB [45] x = true := fun h => take_all hc hn (by rw [hcx]; exact h)
    by_cases d1 : isD c = true
    · simp (maxSteps := 4000000) [List.getElem?_cons_zero, List.getElem?_cons_succ, -getElem?_pos, hc, hx, q1, d1, e0]
      exact ⟨i + 1, ⟨by omega, go (by simp [wordB, d1])⟩, by omega, by simp⟩
    · by_cases d2 : isL c = true
      · simp (maxSteps := 4000000) [List.getElem?_cons_zero, List.getElem?_cons_succ, -getElem?_pos, hc, hx, q1, q2, d1, d2, e0]
        exact ⟨i + 1, ⟨by omega, go (by simp [wordB, d2])⟩, by omega, by simp⟩
      · by_cases d3 : isU c = true
        · simp (maxSteps := 4000000) [List.getElem?_cons_zero, List.getElem?_cons_succ, -getElem?_pos, hc, hx, q1, q2, q3, d1, d2, d3, e0]
          exact ⟨i + 1, ⟨by omega, go (by simp [wordB, d3])⟩, by omega, by simp⟩
        · by_cases d4 : c = 45
          · have z := go (by simp [wordB, d4])
            subst d4
            have q1' : ∀ σ, ev 117 [.int .u8 45] σ = some (.bool false, σ) := fun σ => rdigit_eq 45 σ
            have q2' : ∀ σ, ev 64 [.int .u8 45] σ = some (.bool false, σ) := fun σ => rlower_eq 45 σ
            have q3' : ∀ σ, ev 61 [.int .u8 45] σ = some (.bool false, σ) := fun σ => rupper_eq 45 σ
            simp (maxSteps := 4000000) [List.getElem?_cons_zero, List.getElem?_cons_succ, -getElem?_pos, hc, hx, q1', q2', q3', e0]
            exact ⟨i + 1, ⟨by omega, z⟩, by omega, by simp⟩
          · have hf : idB s = false := by
              have : s.all (wordB [45]) = false := by
                rw [Bool.eq_false_iff]; intro h
                have := List.all_eq_true.1 h _ (List.getElem_mem hc)
                rw [hcx] at this
                simp [wordB, d1, d2, d3, d4] at this
              simp [idB, allB, this]
            simp (maxSteps := 4000000) [List.getElem?_cons_zero, List.getElem?_cons_succ, -getElem?_pos, hc, hx, q1, q2, q3, d1, d2, d3, d4, hf, Tryz.results94]
  · have hi' : i = s.length := by omega
    subst hi'
    rw [List.take_length] at hn
    have h2 : s.all (wordB [45]) = true := List.all_eq_true.2 hn
    cases s with
    | nil => simp (maxSteps := 4000000) [List.getElem?_cons_zero, List.getElem?_cons_succ, idB, allB, Tryz.results94]
    | cons c r =>
      have h3 : idB (c :: r) = !(allB isD (c :: r) && !plainB (c :: r)) := by simp [idB, allB, h2]
      by_cases d1 : allB isD (c :: r) = true
      · by_cases d2 : c :: r = [48]
        · injection d2 with d2 d3
          subst d2 d3
          simp (maxSteps := 4000000) [List.getElem?_cons_zero, List.getElem?_cons_succ, hd, d1, h3, plainB, Tryz.results94]
        · by_cases d3 : c = 48
          · subst d3
            have d4 : ¬ r = [] := fun e => d2 (by rw [e])
            have h6 : plainB (48 :: r) = false := by simp [plainB, d4]
            have d5 : r.isEmpty = false := by simpa using d4
            simp (maxSteps := 4000000) [List.getElem?_cons_zero, List.getElem?_cons_succ, hd, d1, d4, d5, h3, h6, Tryz.results94]
          · have h6 : plainB (c :: r) = true := by simp [plainB, d3]
            simp (maxSteps := 4000000) [List.getElem?_cons_zero, List.getElem?_cons_succ, hd, d1, d3, h3, h6, Tryz.results94]
      · simp (maxSteps := 4000000) [List.getElem?_cons_zero, List.getElem?_cons_succ, hd, d1, h3, Tryz.results94]
end Go.Proofs.Tryz.Ai
end
section
/- mewsref: pieces, numbers; mewsref3.Parts. -/
namespace Go.Proofs.Tryz.Ai
open Go Go.AI Go.Proofs
set_option maxHeartbeats 2000000
set_option linter.unusedVariables false

theorem Cut_eq (s : List UInt8) (hl : s.length ≤ 2 ^ 39) (c : UInt8) (σ) : ev 77 [.str s, .int .u8 c.toNat] σ = some (.sl (.ex 9 1) ((splitB c s).map .str), σ) := by
  refine EV_post rfl Tryz.func77 rfl (by simp [Tryz.ntmps77]) (by kernel_rfl) (by kernel_rfl) ?_
  simp (maxSteps := 4000000) (disch := omega) [dT, dF, wrap64]
  refine Post_loop (I := fun p : List (List UInt8) × Nat × Nat => ⟨[(0, .str s), (1, .int .u8 c.toNat), (5, .sl (.ex 9 1) (p.1.map .str)), (6, .int .i64 p.2.1), (7, .int .i64 p.2.2)], [], σ⟩)
    (Pr := fun p => (p.2.2 ≤ s.length ∧ p.2.1 ≤ p.2.2 ∧ c ∉ (s.take p.2.2).drop p.2.1 ∧ p.1 ++ splitB c (s.drop p.2.1) = splitB c s) ∨ (p.2.2 = s.length + 1 ∧ p.1 = splitB c s)) (μ := fun p => s.length + 1 - p.2.2) (a := ([], 0, 0)) (by simp) (by simp) ?_
  rintro ⟨a, f, i⟩ h
  simp only at h ⊢
  rcases h with ⟨hi, hf, hn, he⟩ | ⟨hi, he⟩
  · have hlen : a.length + 1 ≤ most := by
      have h1 := congrArg List.length he
      have h2 := splitB_many c s
      have h3 := splitB_ne c (s.drop f)
      have h4 : (splitB c (s.drop f)).length ≠ 0 := fun e => h3 (List.length_eq_zero_iff.1 e)
      simp only [List.length_append] at h1
      unfold most; omega
    have e0 : IntKind.i64.wrap ((i : Int) + 1) = (i : Int) + 1 := wrap64 (by omega)
    by_cases hc : i < s.length
    · obtain ⟨x, hcx⟩ : ∃ x, s[i] = x := ⟨_, rfl⟩
      have hx : s[i]? = some x := by rw [← hcx]; exact List.getElem?_eq_getElem hc
      have hne : ¬ i = s.length := by omega
      by_cases d : x = c
      · have hs : s.drop f = (s.take i).drop f ++ c :: s.drop (i + 1) := by
          have h1 : s = s.take i ++ c :: s.drop (i + 1) := by
            rw [← d, ← hcx, ← List.drop_eq_getElem_cons hc, List.take_append_drop]
          conv => lhs; rw [h1]
          rw [List.drop_append_of_le_length (by simp; omega)]
        rw [hs, splitB_app hn] at he
        subst d
        simp (maxSteps := 4000000) [List.getElem?_cons_zero, List.getElem?_cons_succ, -getElem?_pos, hi, hne, hx, hf, e0, hlen]
        refine ⟨a ++ [(s.take i).drop f], i + 1, i + 1, .inl ⟨by omega, by omega, ?_, ?_⟩, by omega, by simp, by simp, by simp⟩
        · rw [List.drop_of_length_le (by simp; omega)]; simp
        · rw [List.append_assoc, ← he]; rfl
      · simp (maxSteps := 4000000) [List.getElem?_cons_zero, List.getElem?_cons_succ, -getElem?_pos, hi, hne, hx, d, e0]
        refine ⟨a, f, i + 1, .inl ⟨by omega, by omega, ?_, he⟩, by omega, by simp⟩
        rw [List.take_succ_eq_append_getElem hc, hcx]
        intro h
        rcases List.mem_append.1 (List.mem_of_mem_drop h) with q | q
        · rw [List.drop_append] at h
          rcases List.mem_append.1 h with h | h
          · exact hn h
          · have := List.mem_of_mem_drop h; simp at this; exact d this.symm
        · simp at q; exact d q.symm
    · have hi' : i = s.length := by omega
      subst hi'
      rw [List.take_length] at hn
      rw [splitB_not hn] at he
      simp (maxSteps := 4000000) [List.getElem?_cons_zero, List.getElem?_cons_succ, hf, e0, hlen]
      exact ⟨a ++ [s.drop f], _, _, .inr ⟨rfl, he⟩, by omega, by simp, rfl, by simp⟩
  · subst hi he
    have hz : ¬ (s.length : Int) + 1 ≤ s.length := by omega
    simp (maxSteps := 4000000) [List.getElem?_cons_zero, List.getElem?_cons_succ, hz, Tryz.results77]
theorem rAtoi_eq (s : List UInt8) (h1 : s.all isD = true) (h2 : plainB s = true) (h3 : s.length ≤ 9) (σ) : ev 95 [.str s] σ = some (.tup [.int .i64 (valB s), .bool true], σ) := by
  obtain ⟨c0, r0, hs0⟩ : ∃ c r, s = c :: r := by cases s with
    | nil => simp [plainB] at h2
    | cons c r => exact ⟨c, r, rfl⟩
  have hd0 : isD c0 = true := by rw [hs0] at h1; simp at h1; exact h1.1
  have g0 : s[0]? = some c0 := by rw [hs0]; rfl
  have e1 : ¬ c0 = 45 := by rintro rfl; revert hd0; decide
  have n2 : s.isEmpty = false := by rw [hs0]; rfl
  have n3 : ¬ 19 < s.length := by omega
  have n4 : 1 < s.length → ¬ c0 = 48 := by
    intro h e
    rw [hs0] at h h2
    simp [plainB, e] at h2
    rw [h2] at h; simp at h
  refine EV_post rfl Tryz.func95 rfl (by simp [Tryz.ntmps95]) (by kernel_rfl) (by kernel_rfl) ?_
  refine Post_mono (K1 := fun e st => finE Tryz.prog (H 95) σ Tryz.f95 (some (e, st)) = some (.tup [.int .i64 (valB s), .bool true], σ)) ?_ (fun e st h => h)
  by_cases n5 : 1 < s.length
  all_goals
    first
      | simp (maxSteps := 4000000) [List.getElem?_cons_zero, List.getElem?_cons_succ, -getElem?_pos, n2, n3, n5, g0, e1, n4 n5]
      | simp (maxSteps := 4000000) [List.getElem?_cons_zero, List.getElem?_cons_succ, -getElem?_pos, n2, n3, n5, g0, e1]
    refine Post_loop (I := fun i : Nat => ⟨[(4, .bool false), (5, .str s), (6, .int .i64 (-(valB (s.take i) : Int))), (7, .int .i64 i)], [], σ⟩) (Pr := fun i => i ≤ s.length) (μ := fun i => s.length - i) (a := 0) (by simp [valB]) (by simp) ?_
    intro i hi
    by_cases hc : i < s.length
    · obtain ⟨c, hcx⟩ : ∃ c, s[i] = c := ⟨_, rfl⟩
      have hx : s[i]? = some c := by rw [← hcx]; exact List.getElem?_eq_getElem hc
      have hd : isD c = true := by rw [← hcx]; exact List.all_eq_true.1 h1 _ (List.getElem_mem hc)
      have hd2 : 48 ≤ c.toNat ∧ c.toNat ≤ 57 := of_decide_eq_true hd
      have z1 : ¬ c.toNat < 48 := by omega
      have z2 : ¬ 57 < c.toNat := by omega
      have w1 : IntKind.u8.wrap ((c.toNat : Int) - 48) = ((c.toNat - 48 : Nat) : Int) := by rw [wrapU8 (by omega)]; omega
      have hall : (s.take i).all isD = true := by rw [List.all_eq_true]; intro x hx; exact List.all_eq_true.1 h1 _ (List.mem_of_mem_take hx)
      have hv := valB_lt _ hall
      have hv2 : (10 : Nat) ^ (s.take i).length ≤ 10 ^ 9 := Nat.pow_le_pow_right (by omega) (by simp; omega)
      obtain ⟨v, hvv⟩ : ∃ v, valB (s.take i) = v := ⟨_, rfl⟩
      rw [hvv] at hv
      obtain ⟨w, hw⟩ : ∃ w : Int, -(v : Int) = w := ⟨_, rfl⟩
      obtain ⟨d, hdd⟩ : ∃ d, c.toNat - 48 = d := ⟨_, rfl⟩
      rw [hdd] at w1
      have w4 : IntKind.i64.wrap (d : Int) = d := wrap64 (by omega)
      have w5 : IntKind.i64.wrap (-9223372036854775808 + (d : Int)) = -9223372036854775808 + (d : Int) := wrap64 (by omega)
      have w6 : IntKind.i64.wrap ((i : Int) + 1) = (i : Int) + 1 := wrap64 (by omega)
      obtain ⟨u, hu⟩ : ∃ u, (-9223372036854775808 + (d : Int)).tdiv 10 = u := ⟨_, rfl⟩
      have hu2 : -922337203685477581 ≤ u ∧ u ≤ -922337203685477579 := by
        rw [← hu, show (-9223372036854775808 + (d : Int)) = -(9223372036854775808 - (d : Int)) by omega, Int.neg_tdiv, Int.tdiv_eq_ediv_of_nonneg (by omega)]; omega
      have w7 : ¬ w < u := by omega
      have wa : IntKind.i64.wrap u = u := wrap64 (by omega)
      have w8 : IntKind.i64.wrap (10 * w) = 10 * w := wrap64 (by omega)
      have w9 : IntKind.i64.wrap (10 * w - (d : Int)) = 10 * w - (d : Int) := wrap64 (by omega)
      have hn : valB (s.take (i + 1)) = v * 10 + d := by rw [List.take_succ_eq_append_getElem hc, valB_snoc, hvv, hcx, hdd]
      simp (maxSteps := 4000000) [List.getElem?_cons_zero, List.getElem?_cons_succ, -getElem?_pos, hc, hx, hvv, hw, z1, z2, w1, w4, w5, w6, hu, wa, w7, w8, w9]
      exact ⟨i + 1, by omega, by omega, by rw [hn]; simp; omega, by simp⟩
    · have hi' : i = s.length := by omega
      subst hi'
      have hv := valB_lt _ h1
      have hv2 : (10 : Nat) ^ s.length ≤ 10 ^ 9 := Nat.pow_le_pow_right (by omega) (by omega)
      have w1 : ¬ (-(valB s : Int)) = -9223372036854775808 := by omega
      have w2 : IntKind.i64.wrap (0 - -(valB s : Int)) = (valB s : Int) := by rw [wrap64 (by omega)]; omega
      have w2' : IntKind.i64.wrap (valB s : Int) = (valB s : Int) := wrap64 (by omega)
      have w3 : ¬ (valB s : Int) = 9223372036854775808 := by omega
      simp (maxSteps := 4000000) [List.getElem?_cons_zero, List.getElem?_cons_succ, hc, w1, w2, w2', w3, Tryz.results95]
end Go.Proofs.Tryz.Ai
end
section
/- mewsref3.Parts. -/
namespace Go.Proofs.Tryz.Ai
open Go Go.AI Go.Proofs
set_option maxHeartbeats 4000000
set_option linter.unusedVariables false

def rpartsA : Option Ver → AV
  | some v => .tup [.int .i64 v.ma, .int .i64 v.mi, .int .i64 v.pa, .str v.pre, .bool true]
  | none => .tup [.int .i64 0, .int .i64 0, .int .i64 0, .str [], .bool false]
theorem rParts_eq (s : List UInt8) (hl : s.length ≤ 2 ^ 39) (σ) : ev 47 [.str s] σ = some (rpartsA (readB s), σ) := by
  refine EV_post rfl Tryz.func47 rfl (by simp [Tryz.ntmps47]) (by kernel_rfl) (by kernel_rfl) ?_
  by_cases h60 : 60 < s.length
  · have hr : readB s = none := by simp [readB, h60]
    simp (maxSteps := 4000000) [List.getElem?_cons_zero, List.getElem?_cons_succ, h60, hr, rpartsA, Tryz.results47]
  · cases s with
    | nil => simp (maxSteps := 4000000) [List.getElem?_cons_zero, List.getElem?_cons_succ, readB, rpartsA, Tryz.results47]
    | cons c r =>
      have h61 : ¬ (60 : Int) < (r.length : Int) + 1 := by simp at h60; omega
      have hrl : r.length < 60 := by simp at h60; omega
      by_cases hc : c = 118
      · subst hc
        have v1 : IntKind.i64.wrap ((r.length : Int) + 1) = (r.length : Int) + 1 := wrap64 (by omega)
        have hr : readB (118 :: r) = match coreOf (cutB 45 r).1 with
            | none => none
            | some (x, y, z) => if (cutB 45 r).2.2 && !idsB (cutB 45 r).2.1 then none else some ⟨x, y, z, (cutB 45 r).2.1⟩ := by
          unfold readB; rw [if_neg h60]; rfl
        simp (maxSteps := 4000000) [List.getElem?_cons_zero, List.getElem?_cons_succ, h61, v1]
        obtain ⟨⟨k, p, b⟩, hk⟩ : ∃ x, cutB 45 r = x := ⟨_, rfl⟩
        refine Post_mono (K1 := fun e st => e = .exit 0 ∧ ∃ (i : Int) (tl : List (Nat × AV)), (tl = [] ∨ tl = [(38, .bool false)]) ∧ st = ⟨[(7, .str k), (8, .str p), (9, .bool b), (10, .int .i64 i)] ++ tl, [], σ⟩) ?_ ?_
        · refine Post_loop (I := fun i : Nat => ⟨[(7, .str r), (8, .str []), (9, .bool false), (10, .int .i64 i)], [], σ⟩) (Pr := fun i => i ≤ r.length ∧ 45 ∉ r.take i) (μ := fun i => r.length - i) (a := 0) (by simp) (by simp) ?_
          rintro i ⟨hi, hn⟩
          by_cases hc : i < r.length
          · obtain ⟨x, hcx⟩ : ∃ x, r[i] = x := ⟨_, rfl⟩
            have hx : r[i]? = some x := by rw [← hcx]; exact List.getElem?_eq_getElem hc
            have w1 : IntKind.i64.wrap ((i : Int) + 1) = (i : Int) + 1 := wrap64 (by omega)
            by_cases hq : x = 45
            · have hix : ix 45 r = some i := by
                have h1 : r = r.take i ++ 45 :: r.drop (i + 1) := by rw [← hq, ← hcx, ← List.drop_eq_getElem_cons hc, List.take_append_drop]
                have h2 := ix_app (y := r.drop (i + 1)) hn
                rw [← h1] at h2
                rw [h2]; simp; omega
              have hcb : cutB 45 r = (r.take i, r.drop (i + 1), true) := by simp [cutB, hix]
              rw [hk] at hcb
              simp only [Prod.mk.injEq] at hcb
              obtain ⟨rfl, rfl, rfl⟩ := hcb
              have q1 : i + 1 ≤ r.length := by omega
              have q2 : i ≤ r.length := by omega
              subst hq
              simp (maxSteps := 4000000) [List.getElem?_cons_zero, List.getElem?_cons_succ, -getElem?_pos, hc, hx, w1, q1, q2]
            · have hn2 : 45 ∉ r.take (i + 1) := by
                rw [List.take_succ_eq_append_getElem hc, hcx]; simp [hn]; exact fun e => hq e.symm
              simp (maxSteps := 4000000) [List.getElem?_cons_zero, List.getElem?_cons_succ, -getElem?_pos, hc, hx, hq, w1]
              exact ⟨i + 1, ⟨by omega, hn2⟩, by omega, by simp⟩
          · have hi' : i = r.length := by omega
            subst hi'
            rw [List.take_length] at hn
            have hix : ix 45 r = none := ix_none.2 hn
            have hcb : cutB 45 r = (r, [], false) := by simp [cutB, hix]
            rw [hk] at hcb
            simp only [Prod.mk.injEq] at hcb
            obtain ⟨rfl, rfl, rfl⟩ := hcb
            simp (maxSteps := 4000000) [List.getElem?_cons_zero, List.getElem?_cons_succ, hc]
        · rintro e st ⟨rfl, i, tl, htl, rfl⟩
          have hcl := cutB_le 45 r
          rw [hk] at hcl hr
          simp only at hcl hr
          have hC : ∀ σ, ev 77 [.str k, .int .u8 46] σ = some (.sl (.ex 9 1) ((splitB 46 k).map .str), σ) := Cut_eq k (by omega) 46
          have hP : ∀ σ, ev 77 [.str p, .int .u8 46] σ = some (.sl (.ex 9 1) ((splitB 46 p).map .str), σ) := Cut_eq p (by omega) 46
          by_cases h3 : (splitB 46 k).length = 3
          · obtain ⟨x, y, z, hxyz⟩ : ∃ x y z, splitB 46 k = [x, y, z] := by
              match hq : splitB 46 k, h3 with
              | [x, y, z], _ => exact ⟨x, y, z, rfl⟩
            have hmem : ∀ w ∈ splitB 46 k, w.length ≤ 2 ^ 39 := fun w hw => by have := splitB_le hw; omega
            rw [hxyz] at hC hmem
            have nx := rnumber_eq x (by have := hmem x (by simp); omega)
            have ny := rnumber_eq y (by have := hmem y (by simp); omega)
            have nz := rnumber_eq z (by have := hmem z (by simp); omega)
            have hco : coreOf k = match numB x, numB y, numB z with
                | some x, some y, some z => some (x, y, z)
                | _, _, _ => none := by simp only [coreOf, hxyz]; cases numB x <;> cases numB y <;> cases numB z <;> rfl
            rw [hco] at hr
            simp only [List.map_cons, List.map_nil] at hC
            by_cases ex : numOk x = true
            · by_cases ey : numOk y = true
              · by_cases ez : numOk z = true
                · have okA : ∀ s, numOk s = true → s.all isD = true ∧ plainB s = true ∧ s.length ≤ 9 := fun s h => by
                    simp only [numOk, allB, Bool.and_eq_true, decide_eq_true_eq] at h; exact ⟨h.1.1.1, h.1.2, h.2⟩
                  have ax := rAtoi_eq x (okA x ex).1 (okA x ex).2.1 (okA x ex).2.2
                  have ay := rAtoi_eq y (okA y ey).1 (okA y ey).2.1 (okA y ey).2.2
                  have az := rAtoi_eq z (okA z ez).1 (okA z ez).2.1 (okA z ez).2.2
                  have bx : numB x = some (valB x) := by simp [numB, ex]
                  have by' : numB y = some (valB y) := by simp [numB, ey]
                  have bz : numB z = some (valB z) := by simp [numB, ez]
                  rw [bx, by', bz] at hr
                  simp only at hr
                  cases b with
                  | false =>
                    simp only [Bool.false_and, Bool.false_eq_true, if_false] at hr
                    rcases htl with rfl | rfl <;> simp (maxSteps := 4000000) [List.getElem?_cons_zero, List.getElem?_cons_succ, hC, nx, ny, nz, ex, ey, ez, ax, ay, az, hr, rpartsA, Tryz.results47]
                  | true =>
                    obtain ⟨L, hL⟩ : ∃ L, splitB 46 p = L := ⟨_, rfl⟩
                    have hm : ∀ x ∈ L, x.length ≤ 2 ^ 39 := fun x hx => by have := splitB_le (hL ▸ hx); omega
                    have hn : L.length ≤ 2 ^ 40 := by rw [← hL]; have := splitB_many 46 p; omega
                    have hAll : idsB p = L.all idB := by unfold idsB; rw [hL]
                    rw [hL] at hP
                    rcases htl with rfl | rfl
                    all_goals
                      simp (maxSteps := 4000000) [List.getElem?_cons_zero, List.getElem?_cons_succ, hC, hP, nx, ny, nz, ex, ey, ez]
                      refine Post_loop (I := fun i : Nat => ⟨[(8, .str p), (11, .sl (.ex 9 1) [.str x, .str y, .str z]), (12, .sl (.ex 9 1) (L.map .str)), (13, .int .i64 i)], [], σ⟩) (Pr := fun i => i ≤ L.length ∧ ∀ x ∈ L.take i, idB x = true) (μ := fun i => L.length - i) (a := 0) (by simp) (by simp) ?_
                      rintro i ⟨hi, ha⟩
                      by_cases hc : i < L.length
                      · obtain ⟨w, hw⟩ : ∃ w, L[i] = w := ⟨_, rfl⟩
                        have hw2 : L[i]? = some w := by rw [← hw]; exact List.getElem?_eq_getElem hc
                        have hI := ridentifier_eq w (by have := hm w (hw ▸ List.getElem_mem hc); omega)
                        have w6 : IntKind.i64.wrap ((i : Int) + 1) = (i : Int) + 1 := wrap64 (by omega)
                        by_cases hq : idB w = true
                        · rw [hq] at hI
                          simp (maxSteps := 4000000) [List.getElem?_cons_zero, List.getElem?_cons_succ, -getElem?_pos, hc, hw2, hI, w6]
                          exact ⟨i + 1, ⟨by omega, take_all hc ha (by rw [hw]; exact hq)⟩, by omega, by simp⟩
                        · have hf : idsB p = false := by rw [hAll, Bool.eq_false_iff]; intro h; exact hq (List.all_eq_true.1 h _ (hw ▸ List.getElem_mem hc))
                          have hq : idB w = false := by simpa using hq
                          rw [hq] at hI
                          rw [hf] at hr
                          simp only [Bool.not_false, Bool.and_self, if_true] at hr
                          simp (maxSteps := 4000000) [List.getElem?_cons_zero, List.getElem?_cons_succ, -getElem?_pos, hc, hw2, hI, hr, rpartsA, Tryz.results47]
                      · have hi' : i = L.length := by omega
                        subst hi'
                        rw [List.take_length] at ha
                        have ht : idsB p = true := by rw [hAll]; exact List.all_eq_true.2 ha
                        rw [ht] at hr
                        simp only [Bool.not_true, Bool.and_false, Bool.false_eq_true, if_false] at hr
                        simp (maxSteps := 4000000) [List.getElem?_cons_zero, List.getElem?_cons_succ, hc, ax, ay, az, hr, rpartsA, Tryz.results47]
                · have bz : numB z = none := by simp [numB, ez]
                  have hr2 : readB (118 :: r) = none := by rw [hr, bz]; cases numB x <;> cases numB y <;> rfl
                  rcases htl with rfl | rfl <;> simp (maxSteps := 4000000) [List.getElem?_cons_zero, List.getElem?_cons_succ, hC, nx, ny, nz, ex, ey, ez, hr2, rpartsA, Tryz.results47]
              · have bz : numB y = none := by simp [numB, ey]
                have hr2 : readB (118 :: r) = none := by rw [hr, bz]; cases numB x <;> rfl
                rcases htl with rfl | rfl <;> simp (maxSteps := 4000000) [List.getElem?_cons_zero, List.getElem?_cons_succ, hC, nx, ny, nz, ex, ey, hr2, rpartsA, Tryz.results47]
            · have bz : numB x = none := by simp [numB, ex]
              have hr2 : readB (118 :: r) = none := by rw [hr, bz]
              rcases htl with rfl | rfl <;> simp (maxSteps := 4000000) [List.getElem?_cons_zero, List.getElem?_cons_succ, hC, nx, ny, nz, ex, hr2, rpartsA, Tryz.results47]
          · rw [coreOf_no h3] at hr
            rcases htl with rfl | rfl <;> simp (maxSteps := 4000000) [List.getElem?_cons_zero, List.getElem?_cons_succ, hC, h3, hr, rpartsA, Tryz.results47]
      · have hr : readB (c :: r) = none := by unfold readB; rw [if_neg h60]; simp [hc]
        simp (maxSteps := 4000000) [List.getElem?_cons_zero, List.getElem?_cons_succ, h61, hc, hr, rpartsA, Tryz.results47]
end Go.Proofs.Tryz.Ai
end
section
/- mewsref3: paths. -/
namespace Go.Proofs.Tryz.Ai
open Go Go.AI Go.Proofs
set_option maxHeartbeats 4000000
set_option linter.unusedVariables false

theorem rLastSlash_eq (s : List UInt8) (hl : s.length ≤ 2 ^ 40) (σ) : ev 75 [.str s] σ = some (.int .i64 (lixI 47 s), σ) := by
  refine EV_post rfl Tryz.func75 rfl (by simp [Tryz.ntmps75]) (by kernel_rfl) (by kernel_rfl) ?_
  simp (maxSteps := 4000000) (disch := omega) [dT, dF, wrap64]
  refine Post_loop (I := fun k : Nat => ⟨[(0, .str s), (3, .int .i64 ((k : Int) - 1))], [], σ⟩) (Pr := fun k => k ≤ s.length ∧ lix 47 (s.take k) = lix 47 s) (μ := fun k => k) (a := s.length) (by simp) (by simp) ?_
  rintro k ⟨hk, hq⟩
  cases k with
  | zero =>
    have e1 : lixI 47 s = -1 := by unfold lixI; rw [← hq]; rfl
    simp (maxSteps := 4000000) [List.getElem?_cons_zero, List.getElem?_cons_succ, e1, Tryz.results75]
  | succ i =>
    have hc : i < s.length := by omega
    have e0 : (((i + 1 : Nat) : Int) - 1) = (i : Int) := by omega
    have e2 : IntKind.i64.wrap ((i : Int) - 1) = (i : Int) - 1 := wrap64 (by omega)
    obtain ⟨x, hcx⟩ : ∃ x, s[i] = x := ⟨_, rfl⟩
    have hx : s[i]? = some x := by rw [← hcx]; exact List.getElem?_eq_getElem hc
    rw [List.take_succ_eq_append_getElem hc, lix_snoc, hcx] at hq
    simp only [e0]
    by_cases hcc : x = 47
    · rw [if_pos hcc] at hq
      have e1 : lixI 47 s = i := by unfold lixI; rw [← hq]; simp; omega
      subst hcc
      simp (maxSteps := 4000000) [List.getElem?_cons_zero, List.getElem?_cons_succ, -getElem?_pos, hc, hx, e1, Tryz.results75]
    · rw [if_neg hcc] at hq
      simp (maxSteps := 4000000) [List.getElem?_cons_zero, List.getElem?_cons_succ, -getElem?_pos, hc, hx, hcc, e2]
      exact ⟨by omega, hq⟩
theorem relement_eq (s o : List UInt8) (more : UInt8) (ho : ∀ c : UInt8, decide (c ∈ o) = (c == 45 || (c == 46 || (c == 95 || (c == 126 || c == more))))) (hl : s.length ≤ 2 ^ 40) (σ) :
    ev 78 [.str s, .int .u8 more.toNat] σ = some (.bool (elemB o s), σ) := by
  refine EV_post rfl Tryz.func78 rfl (by simp [Tryz.ntmps78]) (by kernel_rfl) (by kernel_rfl) ?_
  cases s with
  | nil => simp (maxSteps := 4000000) [List.getElem?_cons_zero, List.getElem?_cons_succ, elemB, allB, Tryz.results78]
  | cons c r =>
    obtain ⟨d, hd⟩ : ∃ d, (c :: r)[r.length]? = some d := ⟨_, List.getElem?_eq_getElem (by simp)⟩
    have hlast : (c :: r).getLast? = some d := by rw [List.getLast?_eq_getElem?]; simpa using hd
    have w7 : IntKind.i64.wrap ((r.length : Int) + 1 - 1) = (r.length : Int) := by rw [wrap64 (by simp at hl; omega)]; omega
    have w8 : IntKind.i64.wrap (r.length : Int) = (r.length : Int) := wrap64 (by simp at hl; omega)
    by_cases e1 : c = 46
    · have hf : elemB o (c :: r) = false := by simp [elemB, e1]
      subst e1
      simp (maxSteps := 4000000) [List.getElem?_cons_zero, List.getElem?_cons_succ, hf, Tryz.results78]
    · by_cases e2 : d = 46
      · have hf : elemB o (c :: r) = false := by simp [elemB, hlast, e2]
        subst e2
        simp (maxSteps := 4000000) [List.getElem?_cons_zero, List.getElem?_cons_succ, -getElem?_pos, e1, w7, w8, hd, hf, Tryz.results78]
      · have he : elemB o (c :: r) = (c :: r).all (wordB o) := by simp [elemB, allB, hlast, e1, e2]
        rw [he]
        obtain ⟨S, hS⟩ : ∃ S, c :: r = S := ⟨_, rfl⟩
        have hSl : (r.length : Int) + 1 = S.length := by rw [← hS]; simp
        have g0 : S[0]? = some c := by rw [← hS]; rfl
        have gE : S.isEmpty = false := by rw [← hS]; rfl
        rw [hS] at hd hl ⊢
        have w9 : IntKind.i64.wrap ((S.length : Int) - 1) = (r.length : Int) := by rw [wrap64 (by omega)]; omega
        simp (maxSteps := 4000000) [List.getElem?_cons_zero, List.getElem?_cons_succ, -getElem?_pos, g0, gE, e1, w9, hd, e2]
        refine Post_loop (I := fun i : Nat => ⟨[(0, .str S), (1, .int .u8 more.toNat), (5, .int .i64 i)], [], σ⟩) (Pr := fun i => i ≤ S.length ∧ ∀ x ∈ S.take i, wordB o x = true) (μ := fun i => S.length - i) (a := 0) (by simp) (by simp) ?_
        rintro i ⟨hi, hn⟩
        by_cases hc : i < S.length
        · obtain ⟨x, hcx⟩ : ∃ x, S[i] = x := ⟨_, rfl⟩
          have hx : S[i]? = some x := by rw [← hcx]; exact List.getElem?_eq_getElem hc
          have e0 : IntKind.i64.wrap ((i : Int) + 1) = (i : Int) + 1 := wrap64 (by omega)
          have q1 := rdigit_eq x
          have q2 := rlower_eq x
          have q3 := rupper_eq x
          have hox := ho x
          have go : wordB o x = true → ∀ y ∈ S.take (i + 1), wordB o y = true := fun h => take_all hc hn (by rw [hcx]; exact h)
          have fin : wordB o x = true → ∃ a : Nat, (a ≤ S.length ∧ ∀ (y : UInt8), y ∈ List.take a S → wordB o y = true) ∧ S.length - a < S.length - i ∧ (i : Int) + 1 = (a : Int) := fun h => ⟨i + 1, ⟨by omega, go h⟩, by omega, by simp⟩
          by_cases d1 : isD x = true
          · simp (maxSteps := 4000000) [List.getElem?_cons_zero, List.getElem?_cons_succ, -getElem?_pos, hc, hx, q1, d1, e0]; exact fin (by simp [wordB, d1])
          · by_cases d2 : isL x = true
            · simp (maxSteps := 4000000) [List.getElem?_cons_zero, List.getElem?_cons_succ, -getElem?_pos, hc, hx, q1, q2, d1, d2, e0]; exact fin (by simp [wordB, d2])
            · by_cases d3 : isU x = true
              · simp (maxSteps := 4000000) [List.getElem?_cons_zero, List.getElem?_cons_succ, -getElem?_pos, hc, hx, q1, q2, q3, d1, d2, d3, e0]; exact fin (by simp [wordB, d3])
              · have q1' : ∀ σ, ev 117 [.int .u8 x.toNat] σ = some (.bool false, σ) := by simpa [d1] using q1
                have q2' : ∀ σ, ev 64 [.int .u8 x.toNat] σ = some (.bool false, σ) := by simpa [d2] using q2
                have q3' : ∀ σ, ev 61 [.int .u8 x.toNat] σ = some (.bool false, σ) := by simpa [d3] using q3
                have key : ∀ b, decide (x ∈ o) = b → wordB o x = b := fun b h => by simp only [wordB, d1, d2, d3, Bool.false_or, h]
                by_cases f1 : x = 45
                · have hw := fin (key true (by rw [hox, f1]; simp))
                  subst f1
                  have Q1 : ∀ σ, ev 117 [.int .u8 45] σ = some (.bool false, σ) := fun σ => rdigit_eq 45 σ
                  have Q2 : ∀ σ, ev 64 [.int .u8 45] σ = some (.bool false, σ) := fun σ => rlower_eq 45 σ
                  have Q3 : ∀ σ, ev 61 [.int .u8 45] σ = some (.bool false, σ) := fun σ => rupper_eq 45 σ
                  simp (maxSteps := 4000000) [List.getElem?_cons_zero, List.getElem?_cons_succ, -getElem?_pos, hc, hx, Q1, Q2, Q3, e0]; exact hw
                by_cases f2 : x = 46
                · have hw := fin (key true (by rw [hox, f2]; simp))
                  subst f2
                  have Q1 : ∀ σ, ev 117 [.int .u8 46] σ = some (.bool false, σ) := fun σ => rdigit_eq 46 σ
                  have Q2 : ∀ σ, ev 64 [.int .u8 46] σ = some (.bool false, σ) := fun σ => rlower_eq 46 σ
                  have Q3 : ∀ σ, ev 61 [.int .u8 46] σ = some (.bool false, σ) := fun σ => rupper_eq 46 σ
                  simp (maxSteps := 4000000) [List.getElem?_cons_zero, List.getElem?_cons_succ, -getElem?_pos, hc, hx, Q1, Q2, Q3, e0]; exact hw
                by_cases f3 : x = 95
                · have hw := fin (key true (by rw [hox, f3]; simp))
                  subst f3
                  have Q1 : ∀ σ, ev 117 [.int .u8 95] σ = some (.bool false, σ) := fun σ => rdigit_eq 95 σ
                  have Q2 : ∀ σ, ev 64 [.int .u8 95] σ = some (.bool false, σ) := fun σ => rlower_eq 95 σ
                  have Q3 : ∀ σ, ev 61 [.int .u8 95] σ = some (.bool false, σ) := fun σ => rupper_eq 95 σ
                  simp (maxSteps := 4000000) [List.getElem?_cons_zero, List.getElem?_cons_succ, -getElem?_pos, hc, hx, Q1, Q2, Q3, e0]; exact hw
                by_cases f4 : x = 126
                · have hw := fin (key true (by rw [hox, f4]; simp))
                  subst f4
                  have Q1 : ∀ σ, ev 117 [.int .u8 126] σ = some (.bool false, σ) := fun σ => rdigit_eq 126 σ
                  have Q2 : ∀ σ, ev 64 [.int .u8 126] σ = some (.bool false, σ) := fun σ => rlower_eq 126 σ
                  have Q3 : ∀ σ, ev 61 [.int .u8 126] σ = some (.bool false, σ) := fun σ => rupper_eq 126 σ
                  simp (maxSteps := 4000000) [List.getElem?_cons_zero, List.getElem?_cons_succ, -getElem?_pos, hc, hx, Q1, Q2, Q3, e0]; exact hw
                by_cases f5 : x = more
                · subst f5
                  have hw := fin (key true (by rw [hox]; simp))
                  simp (maxSteps := 4000000) [List.getElem?_cons_zero, List.getElem?_cons_succ, -getElem?_pos, hc, hx, q1', q2', q3', f1, f2, f3, f4, e0]; exact hw
                have hf : wordB o x = false := key false (by rw [hox]; simp [f1, f2, f3, f4, f5])
                have hA : S.all (wordB o) = false := by
                  rw [Bool.eq_false_iff]; intro h
                  have := List.all_eq_true.1 h _ (List.getElem_mem hc)
                  rw [hcx, hf] at this; cases this
                simp (maxSteps := 4000000) [List.getElem?_cons_zero, List.getElem?_cons_succ, -getElem?_pos, hc, hx, q1', q2', q3', f1, f2, f3, f4, f5, hA, Tryz.results78]
        · have hi' : i = S.length := by omega
          subst hi'
          rw [List.take_length] at hn
          have ht : S.all (wordB o) = true := List.all_eq_true.2 hn
          simp (maxSteps := 4000000) [List.getElem?_cons_zero, List.getElem?_cons_succ, hc, ht, Tryz.results78]
end Go.Proofs.Tryz.Ai
end
section
/- mewsref3: majors. -/
namespace Go.Proofs.Tryz.Ai
open Go Go.AI Go.Proofs
set_option maxHeartbeats 4000000
set_option linter.unusedVariables false

def sufB : List UInt8 → Nat
  | [] => 0
  | c :: r => if c ≠ 118 then 0 else match numB r with
    | none => 0
    | some n => n
theorem suf_maj {q : List UInt8} {n : Nat} (h : majB q = some n) : sufB q = n := by
  cases q with
  | nil => cases h
  | cons c r =>
    simp only [majB] at h
    simp only [sufB]
    split at h
    · cases h
    · rename_i h0
      rw [if_neg h0]
      split at h
      · cases h
      · rename_i m hm
        rw [hm]
        split at h
        · cases h
        · injection h
theorem rsuffix_eq (q : List UInt8) (hl : q.length ≤ 2 ^ 39) (σ) : ev 76 [.str q] σ = some (.tup [.int .i64 (sufB q), .bool (majB q).isSome], σ) := by
  refine EV_post rfl Tryz.func76 rfl (by simp [Tryz.ntmps76]) (by kernel_rfl) (by kernel_rfl) ?_
  cases q with
  | nil => simp (maxSteps := 4000000) [List.getElem?_cons_zero, List.getElem?_cons_succ, sufB, majB, Tryz.results76]
  | cons c r =>
    cases r with
    | nil =>
      have h1 : majB [c] = none := by simp [majB, numB, numOk, allB]
      have h2 : sufB [c] = 0 := by simp [sufB, numB, numOk, allB]
      simp (maxSteps := 4000000) [List.getElem?_cons_zero, List.getElem?_cons_succ, h1, h2, Tryz.results76]
    | cons d r =>
      obtain ⟨S, hS⟩ : ∃ S, d :: r = S := ⟨_, rfl⟩
      have hlen : S.length = r.length + 1 := by rw [← hS]; simp
      have hSl : S.length ≤ 2 ^ 39 := by rw [hS] at hl; simp at hl; omega
      rw [hS]
      have hn := rnumber_eq S (by omega)
      have c0 : ¬ ((S.length : Int) + 1 < 2) := by omega
      have c1 : ¬ (S.length + 1 < 2) := by omega
      have c2 : (1 : Int) ≤ (S.length : Int) + 1 := by omega
      by_cases e1 : c = 118
      · subst e1
        cases h : numOk S with
        | false =>
          have h1 : numB S = none := by simp [numB, h]
          have h2 : majB (118 :: S) = none := by simp [majB, h1]
          have h3 : sufB (118 :: S) = 0 := by simp [sufB, h1]
          rw [h] at hn
          simp (maxSteps := 4000000) [List.getElem?_cons_zero, List.getElem?_cons_succ, -getElem?_pos, c0, c1, c2, hn, h2, h3, Tryz.results76]
        | true =>
          have h1 : numB S = some (valB S) := by simp [numB, h]
          rw [h] at hn
          simp only [numOk, allB, Bool.and_eq_true, decide_eq_true_eq] at h
          have ha := rAtoi_eq S h.1.1.1 h.1.2 h.2
          have h3 : sufB (118 :: S) = valB S := by simp [sufB, h1]
          by_cases g : valB S < 2
          · have h2 : majB (118 :: S) = none := by simp [majB, h1, g]
            have g2 : ¬ (2 : Int) ≤ valB S := by omega
            simp (maxSteps := 4000000) [List.getElem?_cons_zero, List.getElem?_cons_succ, -getElem?_pos, c0, c1, c2, hn, ha, h2, h3, g, g2, Tryz.results76]
          · have h2 : majB (118 :: S) = some (valB S) := by simp [majB, h1, g]
            have g2 : (2 : Int) ≤ valB S := by omega
            have g3 : 2 ≤ valB S := by omega
            simp (maxSteps := 4000000) [List.getElem?_cons_zero, List.getElem?_cons_succ, -getElem?_pos, c0, c1, c2, hn, ha, h2, h3, g, g2, g3, Tryz.results76]
      · have h2 : majB (c :: S) = none := by simp [majB, e1]
        have h3 : sufB (c :: S) = 0 := by simp [sufB, e1]
        simp (maxSteps := 4000000) [List.getElem?_cons_zero, List.getElem?_cons_succ, -getElem?_pos, c0, c1, c2, e1, hn, h2, h3, Tryz.results76]
theorem rSplitMajor_eq (p : List UInt8) (hp : p.length ≤ 2 ^ 39) (σ) : ev 29 [.str p] σ = some (.tup [.str (splitMB p).1, .int .i64 (splitMB p).2], σ) := by
  have h1 := rLastSlash_eq p (by omega)
  refine EV_post rfl Tryz.func29 rfl (by simp [Tryz.ntmps29]) (by kernel_rfl) (by kernel_rfl) ?_
  cases hx : lix 47 p with
  | none =>
    have e1 : lixI 47 p = -1 := by simp [lixI, hx]
    have e2 : splitMB p = (p, 0) := by simp [splitMB, hx]
    simp (maxSteps := 4000000) [List.getElem?_cons_zero, List.getElem?_cons_succ, h1, e1, e2, Tryz.results29]
  | some i =>
    have e1 : lixI 47 p = i := by simp [lixI, hx]
    have hi := (lix_some hx).1
    obtain ⟨q, hq⟩ : ∃ q, p.drop (i + 1) = q := ⟨_, rfl⟩
    have hql : q.length ≤ 2 ^ 39 := by rw [← hq]; simp; omega
    have w1 : IntKind.i64.wrap ((i : Int) + 1) = (i : Int) + 1 := wrap64 (by omega)
    have w2 : i + 1 ≤ p.length := by omega
    have w3 : i ≤ p.length := by omega
    have h2 := rsuffix_eq q hql
    cases hm : majB q with
    | none =>
      have e2 : splitMB p = (p, 0) := by simp [splitMB, hx, hq, hm]
      rw [hm] at h2
      simp (maxSteps := 4000000) [List.getElem?_cons_zero, List.getElem?_cons_succ, h1, e1, e2, hq, w1, w2, w3, h2, Tryz.results29]
    | some n =>
      have e2 : splitMB p = (p.take i, n) := by simp [splitMB, hx, hq, hm]
      rw [hm, suf_maj hm] at h2
      simp (maxSteps := 4000000) [List.getElem?_cons_zero, List.getElem?_cons_succ, h1, e1, e2, hq, w1, w2, w3, h2, Tryz.results29]
theorem rCheckImport_eq (p : List UInt8) (σ) : ev 31 [.str p] σ = some (.int .i64 (importB p), σ) := by
  refine EV_post rfl Tryz.func31 rfl (by simp [Tryz.ntmps31]) (by kernel_rfl) (by kernel_rfl) ?_
  by_cases c0 : 100 < p.length
  · have h1 : importB p = 13 := by simp [importB, c0]
    have c1 : (100 : Int) < p.length := by omega
    simp (maxSteps := 4000000) [List.getElem?_cons_zero, List.getElem?_cons_succ, c0, c1, h1, Tryz.results31]
  · have c1 : ¬ (100 : Int) < p.length := by omega
    have hC : ∀ σ, ev 77 [.str p, .int .u8 47] σ = some (.sl (.ex 9 1) ((splitB 47 p).map .str), σ) := fun σ => Cut_eq p (by omega) 47 σ
    obtain ⟨L, hL⟩ : ∃ L, splitB 47 p = L := ⟨_, rfl⟩
    have hm : ∀ x ∈ L, x.length ≤ 100 := fun x hx => Nat.le_trans (splitB_le (hL ▸ hx)) (by omega)
    have hn : L.length ≤ 101 := by rw [← hL]; have := splitB_many 47 p; omega
    have hAll : elemsB [45, 46, 95, 126, 43] p = L.all (elemB [45, 46, 95, 126, 43]) := by unfold elemsB; rw [hL]
    rw [hL] at hC
    simp (maxSteps := 4000000) [List.getElem?_cons_zero, List.getElem?_cons_succ, c0, c1, hC]
    refine Post_loop (I := fun i : Nat => ⟨[(3, .sl (.ex 9 1) (L.map .str)), (4, .int .i64 i)], [], σ⟩) (Pr := fun i => i ≤ L.length ∧ ∀ x ∈ L.take i, elemB [45, 46, 95, 126, 43] x = true) (μ := fun i => L.length - i) (a := 0) (by simp) (by simp) ?_
    rintro i ⟨hi, ha⟩
    by_cases hc : i < L.length
    · obtain ⟨x, hx⟩ : ∃ x, L[i] = x := ⟨_, rfl⟩
      have hx2 : L[i]? = some x := by rw [← hx]; exact List.getElem?_eq_getElem hc
      have hxl := hm x (hx ▸ List.getElem_mem hc)
      have h1 : ∀ σ, ev 78 [.str x, .int .u8 43] σ = some (.bool (elemB [45, 46, 95, 126, 43] x), σ) := fun σ => relement_eq x [45, 46, 95, 126, 43] 43 (fun c => by simp [Bool.or_assoc, Bool.decide_or]) (by omega) σ
      have w6 : IntKind.i64.wrap ((i : Int) + 1) = (i : Int) + 1 := wrap64 (by omega)
      cases hA : elemB [45, 46, 95, 126, 43] x with
      | true =>
        rw [hA] at h1
        simp (maxSteps := 4000000) [List.getElem?_cons_zero, List.getElem?_cons_succ, -getElem?_pos, hc, hx2, h1, w6]
        exact ⟨i + 1, ⟨by omega, take_all hc ha (by rw [hx]; exact hA)⟩, by omega, by simp⟩
      | false =>
        rw [hA] at h1
        have hf : importB p = 9 := by
          have : elemsB [45, 46, 95, 126, 43] p = false := by
            rw [hAll, Bool.eq_false_iff]; intro h; have := List.all_eq_true.1 h _ (hx ▸ List.getElem_mem hc); rw [hA] at this; cases this
          simp [importB, c0, this]
        simp (maxSteps := 4000000) [List.getElem?_cons_zero, List.getElem?_cons_succ, -getElem?_pos, hc, hx2, h1, hf, Tryz.results31]
    · have hi' : i = L.length := by omega
      subst hi'
      rw [List.take_length] at ha
      have ht : elemsB [45, 46, 95, 126, 43] p = true := by rw [hAll]; exact List.all_eq_true.2 ha
      have hz : importB p = 0 := by simp [importB, c0, ht]
      simp (maxSteps := 4000000) [List.getElem?_cons_zero, List.getElem?_cons_succ, hz, Tryz.results31]
end Go.Proofs.Tryz.Ai
end
section
/- mewsref3: checks of a path. -/
namespace Go.Proofs.Tryz.Ai
open Go Go.AI Go.Proofs
set_option maxHeartbeats 4000000
set_option linter.unusedVariables false

theorem rMatches_eq (v p : List UInt8) (hv : v.length ≤ 2 ^ 39) (hp : p.length ≤ 2 ^ 39) (σ) : ev 32 [.str v, .str p] σ = some (.bool (matchesB v p), σ) := by
  have h1 := rParts_eq v hv
  have h2 := rSplitMajor_eq p hp
  obtain ⟨⟨sm, n⟩, hk2⟩ : ∃ x, splitMB p = x := ⟨_, rfl⟩
  rw [hk2] at h2
  refine EV_post rfl Tryz.func32 rfl (by simp [Tryz.ntmps32]) (by kernel_rfl) (by kernel_rfl) ?_
  cases e1 : readB v with
  | none =>
    rw [e1] at h1
    have h4 : matchesB v p = false := by simp [matchesB, e1]
    simp (maxSteps := 4000000) [List.getElem?_cons_zero, List.getElem?_cons_succ, h1, h2, h4, rpartsA, Tryz.results32]
  | some x =>
    rw [e1] at h1
    have h4 : matchesB v p = (decide (x.ma = n) || (decide (n = 0) && decide (x.ma = 1))) := by simp [matchesB, e1, hk2]
    by_cases d1 : x.ma = n
    · simp (maxSteps := 4000000) [List.getElem?_cons_zero, List.getElem?_cons_succ, h1, h2, h4, d1, rpartsA, Tryz.results32]
    · have d1' : ¬ n = x.ma := fun e => d1 e.symm
      by_cases d2 : n = 0
      · subst d2
        by_cases d3 : x.ma = 1
        · simp (maxSteps := 4000000) [List.getElem?_cons_zero, List.getElem?_cons_succ, h1, h2, h4, d3, rpartsA, Tryz.results32]
        · have d4 : ¬ x.ma ≤ 1 := by omega
          simp (maxSteps := 4000000) [List.getElem?_cons_zero, List.getElem?_cons_succ, h1, h2, h4, d1, d1', d3, d4, rpartsA, Tryz.results32]
      · simp (maxSteps := 4000000) [List.getElem?_cons_zero, List.getElem?_cons_succ, h1, h2, h4, d1, d1', d2, rpartsA, Tryz.results32]
theorem rValid_eq (v : List UInt8) (hv : v.length ≤ 2 ^ 39) (σ) : ev 81 [.str v] σ = some (.bool (readB v).isSome, σ) := by
  have h1 := rParts_eq v hv
  refine EV_post rfl Tryz.func81 rfl (by simp [Tryz.ntmps81]) (by kernel_rfl) (by kernel_rfl) ?_
  cases e1 : readB v with
  | none => rw [e1] at h1; simp (maxSteps := 4000000) [List.getElem?_cons_zero, List.getElem?_cons_succ, h1, rpartsA, Tryz.results81]
  | some x => rw [e1] at h1; simp (maxSteps := 4000000) [List.getElem?_cons_zero, List.getElem?_cons_succ, h1, rpartsA, Tryz.results81]
def hostB (f : List UInt8) : Bool := !(f.any oddB) && (decide (46 ∈ f) && !(decide (f.head? = some 45)))
theorem rhost_eq (c : UInt8) (r : List UInt8) (hl : (c :: r).length ≤ 2 ^ 40) (σ) : ev 79 [.str (c :: r)] σ = some (.bool (hostB (c :: r)), σ) := by
  obtain ⟨S, hS⟩ : ∃ S, c :: r = S := ⟨_, rfl⟩
  have g0 : S[0]? = some c := by rw [← hS]; rfl
  have gh : S.head? = some c := by rw [← hS]; rfl
  rw [hS] at hl ⊢
  refine EV_post rfl Tryz.func79 rfl (by simp [Tryz.ntmps79]) (by kernel_rfl) (by kernel_rfl) ?_
  simp (maxSteps := 4000000) (disch := omega) [dT, dF, wrap64]
  refine Post_loop (I := fun i : Nat => ⟨[(0, .str S), (3, .bool (decide (46 ∈ S.take i))), (4, .int .i64 i)], [], σ⟩) (Pr := fun i => i ≤ S.length ∧ ∀ x ∈ S.take i, (!(oddB x)) = true) (μ := fun i => S.length - i) (a := 0) (by simp) (by simp) ?_
  rintro i ⟨hi, ha⟩
  by_cases hc : i < S.length
  · obtain ⟨x, hx⟩ : ∃ x, S[i] = x := ⟨_, rfl⟩
    have hx2 : S[i]? = some x := by rw [← hx]; exact List.getElem?_eq_getElem hc
    have q3 := rupper_eq x
    have w6 : IntKind.i64.wrap ((i : Int) + 1) = (i : Int) + 1 := wrap64 (by omega)
    have ht : decide (46 ∈ S.take (i + 1)) = (decide (46 ∈ S.take i) || decide (x = 46)) := by
      rw [List.take_succ_eq_append_getElem hc, hx]; simp [eq_comm]
    have bad : oddB x = true → hostB S = false := fun e => by
      have : S.any oddB = true := List.any_eq_true.2 ⟨x, hx ▸ List.getElem_mem hc, e⟩
      simp [hostB, this]
    obtain ⟨bt, hbt⟩ : ∃ b, decide (46 ∈ S.take i) = b := ⟨_, rfl⟩
    by_cases d1 : isU x = true
    · have hf := bad (by simp [oddB, d1])
      rw [d1] at q3
      simp (maxSteps := 4000000) [List.getElem?_cons_zero, List.getElem?_cons_succ, -getElem?_pos, hc, hx2, q3, hf, Tryz.results79]
    · have q3' : ∀ σ, ev 61 [.int .u8 x.toNat] σ = some (.bool false, σ) := by simpa [d1] using q3
      by_cases d2 : x = 95
      · have hf := bad (by simp [oddB, d2])
        subst d2
        have q4 : ∀ σ, ev 61 [.int .u8 95] σ = some (.bool false, σ) := q3'
        simp (maxSteps := 4000000) [List.getElem?_cons_zero, List.getElem?_cons_succ, -getElem?_pos, hc, hx2, q4, hf, Tryz.results79]
      · by_cases d3 : x = 126
        · have hf := bad (by simp [oddB, d3])
          subst d3
          have q4 : ∀ σ, ev 61 [.int .u8 126] σ = some (.bool false, σ) := q3'
          simp (maxSteps := 4000000) [List.getElem?_cons_zero, List.getElem?_cons_succ, -getElem?_pos, hc, hx2, q4, hf, Tryz.results79]
        · have ho : (!(oddB x)) = true := by simp [oddB, d1, d2, d3]
          have hn0 := take_all hc ha (by rw [hx]; exact ho)
          have hn : ∀ y ∈ S.take (i + 1), oddB y = false := fun y hy => by simpa using hn0 y hy
          rw [hbt] at ht
          rw [hbt]
          by_cases d4 : x = 46
          · subst d4
            have q4 : ∀ σ, ev 61 [.int .u8 46] σ = some (.bool false, σ) := q3'
            have ht2 : decide (46 ∈ S.take (i + 1)) = true := by rw [ht]; simp
            cases bt
            · simp (maxSteps := 4000000) [List.getElem?_cons_zero, List.getElem?_cons_succ, -getElem?_pos, hc, hx2, q4, w6]
              refine ⟨i + 1, ⟨by omega, hn⟩, by omega, ?_⟩
              simpa using ht2
            · simp (maxSteps := 4000000) [List.getElem?_cons_zero, List.getElem?_cons_succ, -getElem?_pos, hc, hx2, q4, w6]
              refine ⟨i + 1, ⟨by omega, hn⟩, by omega, ?_⟩
              simpa using ht2
          · have ht2 : decide (46 ∈ S.take (i + 1)) = bt := by rw [ht]; simp [d4]
            cases bt
            · simp (maxSteps := 4000000) [List.getElem?_cons_zero, List.getElem?_cons_succ, -getElem?_pos, hc, hx2, q3', d2, d3, d4, w6]
              refine ⟨i + 1, ⟨by omega, hn⟩, by omega, ?_⟩
              simpa using ht2
            · simp (maxSteps := 4000000) [List.getElem?_cons_zero, List.getElem?_cons_succ, -getElem?_pos, hc, hx2, q3', d2, d3, d4, w6]
              refine ⟨i + 1, ⟨by omega, hn⟩, by omega, ?_⟩
              simpa using ht2
  · have hi' : i = S.length := by omega
    subst hi'
    rw [List.take_length] at ha ⊢
    have hA : S.any oddB = false := by rw [Bool.eq_false_iff]; intro h; obtain ⟨x, hx, h2⟩ := List.any_eq_true.1 h; have := ha x hx; rw [h2] at this; cases this
    have hB : hostB S = (decide (46 ∈ S) && !(decide (c = 45))) := by simp [hostB, hA, gh]
    obtain ⟨bt, hbt⟩ : ∃ b, decide (46 ∈ S) = b := ⟨_, rfl⟩
    rw [hbt] at hB ⊢
    by_cases e3 : c = 45
    · subst e3
      cases bt
      · simp (maxSteps := 4000000) [List.getElem?_cons_zero, List.getElem?_cons_succ, -getElem?_pos, g0, hB, Tryz.results79]
      · simp (maxSteps := 4000000) [List.getElem?_cons_zero, List.getElem?_cons_succ, -getElem?_pos, g0, hB, Tryz.results79]
    · cases bt
      · simp (maxSteps := 4000000) [List.getElem?_cons_zero, List.getElem?_cons_succ, -getElem?_pos, g0, e3, hB, Tryz.results79]
      · simp (maxSteps := 4000000) [List.getElem?_cons_zero, List.getElem?_cons_succ, -getElem?_pos, g0, e3, hB, Tryz.results79]
end Go.Proofs.Tryz.Ai
end
section
/- mewsref3: CheckPath. -/
namespace Go.Proofs.Tryz.Ai
open Go Go.AI Go.Proofs
set_option maxHeartbeats 4000000
set_option linter.unusedVariables false

theorem rCheckPath_eq (p : List UInt8) (σ) : ev 30 [.str p] σ = some (.int .i64 (pathB p), σ) := by
  refine EV_post rfl Tryz.func30 rfl (by simp [Tryz.ntmps30]) (by kernel_rfl) (by kernel_rfl) ?_
  by_cases c0 : 100 < p.length
  · have h1 : pathB p = 13 := by simp [pathB, c0]
    have c1 : (100 : Int) < p.length := by omega
    simp (maxSteps := 4000000) [List.getElem?_cons_zero, List.getElem?_cons_succ, c0, c1, h1, Tryz.results30]
  · have c1 : ¬ (100 : Int) < p.length := by omega
    have hC : ∀ σ, ev 77 [.str p, .int .u8 47] σ = some (.sl (.ex 9 1) ((splitB 47 p).map .str), σ) := fun σ => Cut_eq p (by omega) 47 σ
    have hh := splitB_head 47 p
    have hg := lastB_get p
    have hz := splitMB_zero p
    obtain ⟨L, hL⟩ : ∃ L, splitB 47 p = L := ⟨_, rfl⟩
    have hm : ∀ x ∈ L, x.length ≤ 100 := fun x hx => Nat.le_trans (splitB_le (hL ▸ hx)) (by omega)
    have hn : L.length ≤ 101 := by rw [← hL]; have := splitB_many 47 p; omega
    have hn0 : 0 < L.length := by rw [← hL]; exact List.length_pos_iff.2 (splitB_ne 47 p)
    have hAll : elemsB [45, 46, 95, 126] p = L.all (elemB [45, 46, 95, 126]) := by unfold elemsB; rw [hL]
    rw [hL] at hC hh hg
    simp (maxSteps := 4000000) [List.getElem?_cons_zero, List.getElem?_cons_succ, c0, c1, hC]
    refine Post_loop (I := fun i : Nat => ⟨[(3, .sl (.ex 9 1) (L.map .str)), (4, .int .i64 i)], [], σ⟩) (Pr := fun i => i ≤ L.length ∧ ∀ x ∈ L.take i, elemB [45, 46, 95, 126] x = true) (μ := fun i => L.length - i) (a := 0) (by simp) (by simp) ?_
    rintro i ⟨hi, ha⟩
    by_cases hc : i < L.length
    · obtain ⟨x, hx⟩ : ∃ x, L[i] = x := ⟨_, rfl⟩
      have hx2 : L[i]? = some x := by rw [← hx]; exact List.getElem?_eq_getElem hc
      have hxl := hm x (hx ▸ List.getElem_mem hc)
      have h1 : ∀ σ, ev 78 [.str x, .int .u8 46] σ = some (.bool (elemB [45, 46, 95, 126] x), σ) := fun σ => relement_eq x [45, 46, 95, 126] 46 (fun c => by
        rw [Bool.eq_iff_iff]; simp; constructor
        · rintro (h | h | h | h) <;> simp [h]
        · rintro (h | h | h | h | h) <;> simp [h]) (by omega) σ
      have w6 : IntKind.i64.wrap ((i : Int) + 1) = (i : Int) + 1 := wrap64 (by omega)
      cases hA : elemB [45, 46, 95, 126] x with
      | true =>
        rw [hA] at h1
        simp (maxSteps := 4000000) [List.getElem?_cons_zero, List.getElem?_cons_succ, -getElem?_pos, hc, hx2, h1, w6]
        exact ⟨i + 1, ⟨by omega, take_all hc ha (by rw [hx]; exact hA)⟩, by omega, by simp⟩
      | false =>
        rw [hA] at h1
        have hf : pathB p = 9 := by
          have : elemsB [45, 46, 95, 126] p = false := by
            rw [hAll, Bool.eq_false_iff]; intro h; have := List.all_eq_true.1 h _ (hx ▸ List.getElem_mem hc); rw [hA] at this; cases this
          simp [pathB, c0, this]
        simp (maxSteps := 4000000) [List.getElem?_cons_zero, List.getElem?_cons_succ, -getElem?_pos, hc, hx2, h1, hf, Tryz.results30]
    · have hi' : i = L.length := by omega
      subst hi'
      rw [List.take_length] at ha
      have e : elemsB [45, 46, 95, 126] p = true := by rw [hAll]; exact List.all_eq_true.2 ha
      obtain ⟨⟨f, g, more⟩, hk⟩ : ∃ x, cutB 47 p = x := ⟨_, rfl⟩
      obtain ⟨⟨sm, n⟩, hk2⟩ : ∃ x, splitMB p = x := ⟨_, rfl⟩
      rw [hk] at hh hz
      rw [hk2] at hz
      simp only at hh hz
      obtain ⟨hh1, hh2⟩ := hh
      have hfe := ha f (List.mem_of_getElem? hh1)
      have hfl := hm f (List.mem_of_getElem? hh1)
      obtain ⟨q, hq⟩ : ∃ q, lastB p = q := ⟨_, rfl⟩
      rw [hq] at hg hz
      have hqe := ha q (List.mem_of_getElem? hg)
      have hql := hm q (List.mem_of_getElem? hg)
      obtain ⟨d, t, hdt⟩ : ∃ d t, q = d :: t := by cases q with
        | nil => simp [elemB, allB] at hqe
        | cons c r => exact ⟨c, r, rfl⟩
      obtain ⟨a, u, hau⟩ : ∃ a u, f = a :: u := by cases f with
        | nil => simp [elemB, allB] at hfe
        | cons c r => exact ⟨c, r, rfl⟩
      have hH : ∀ σ, ev 79 [.str f] σ = some (.bool (hostB f), σ) := by rw [hau] at hfl ⊢; exact rhost_eq a u (by omega)
      obtain ⟨k, hk3⟩ : ∃ k, L.length = k + 1 := ⟨L.length - 1, by omega⟩
      have hg' : L[k]? = some q := by rw [hk3] at hg; exact hg
      have w9 : IntKind.i64.wrap ((k : Int) + 1 - 1) = (k : Int) := by rw [wrap64 (by omega)]; omega
      have w10 : IntKind.i64.wrap (k : Int) = (k : Int) := wrap64 (by omega)
      have hS := rsuffix_eq q (by omega)
      have hD := rdigits_eq t (by rw [hdt] at hql; simp at hql; omega)
      have g1 : q[0]? = some d := by rw [hdt]; rfl
      have g2 : q.tail = t := by rw [hdt]; rfl
      have g3 : 1 ≤ q.length := by rw [hdt]; simp
      have g4 : List.drop 1 q = t := by rw [hdt]; rfl
      have h7 : q.head? = some d := by rw [hdt]; rfl
      have kH : hostB f = false ↔ (46 ∉ f ∨ f.any oddB = true ∨ f.head? = some 45) := by
        unfold hostB
        cases f.any oddB <;> by_cases x1 : 46 ∈ f <;> by_cases x2 : f.head? = some 45 <;> simp [x1, x2]
      cases hHb : hostB f with
      | false =>
        rw [hHb] at hH
        have e1 : pathB p = 9 := by simp only [pathB, if_neg c0, hk]; rw [if_pos (.inr (kH.1 hHb))]
        simp (maxSteps := 4000000) [List.getElem?_cons_zero, List.getElem?_cons_succ, -getElem?_pos, hk3, hh1, hH, e1, Tryz.results30]
      | true =>
        rw [hHb] at hH
        have hfin : pathB p = if more = true ∧ d = 118 ∧ allB isD t = true ∧ n = 0 then 10 else 0 := by
          simp only [pathB, if_neg c0, hk, hk2, hq, h7, g2, Option.some.injEq]
          rw [if_neg]
          rintro (h | h)
          · rw [e] at h; cases h
          · rw [kH.2 h] at hHb; cases hHb
        by_cases e3 : k = 0
        · have hm2 : more = false := by rw [Bool.eq_false_iff]; intro h; have := hh2.1 h; omega
          have e1 : pathB p = 0 := by rw [hfin, if_neg (by simp [hm2])]
          subst e3
          have hfq : f = q := by rw [hh1] at hg'; injection hg'
          rw [← hfq] at hS
          have w0 : IntKind.i64.wrap 0 = 0 := by decide
          simp (maxSteps := 4000000) [List.getElem?_cons_zero, List.getElem?_cons_succ, -getElem?_pos, hk3, hh1, hH, w0, hS, e1, Tryz.results30]
        · have hm2 : more = true := hh2.2 (by omega)
          have c3 : (1 : Int) < (k : Int) + 1 := by omega
          have c4 : 1 < k + 1 := by omega
          have c5 : 0 < k := by omega
          by_cases e4 : d = 118
          · subst e4
            cases e5 : allB isD t with
            | true =>
              rw [e5] at hD
              cases e6 : majB q with
              | none =>
                have e1 : pathB p = 10 := by rw [hfin, if_pos ⟨hm2, rfl, e5, (hz hm2).2 e6⟩]
                rw [e6] at hS
                simp (maxSteps := 4000000) [List.getElem?_cons_zero, List.getElem?_cons_succ, -getElem?_pos, hk3, hh1, hH, hg', w9, w10, hS, c3, c4, c5, g1, g3, g2, hD, e1, Tryz.results30]
              | some v =>
                have e1 : pathB p = 0 := by rw [hfin, if_neg]; rintro ⟨_, _, _, h⟩; rw [(hz hm2).1 h] at e6; cases e6
                rw [e6] at hS
                simp (maxSteps := 4000000) [List.getElem?_cons_zero, List.getElem?_cons_succ, -getElem?_pos, hk3, hh1, hH, hg', w9, w10, hS, c3, c4, c5, g1, g3, g2, hD, e1, Tryz.results30]
            | false =>
              have e1 : pathB p = 0 := by rw [hfin, if_neg (by simp [e5])]
              rw [e5] at hD
              simp (maxSteps := 4000000) [List.getElem?_cons_zero, List.getElem?_cons_succ, -getElem?_pos, hk3, hh1, hH, hg', w9, w10, hS, c3, c4, c5, g1, g3, g2, hD, e1, Tryz.results30]
          · have e1 : pathB p = 0 := by rw [hfin, if_neg (by simp [e4])]
            simp (maxSteps := 4000000) [List.getElem?_cons_zero, List.getElem?_cons_succ, -getElem?_pos, hk3, hh1, hH, hg', w9, w10, hS, c3, c4, c5, g1, e4, e1, Tryz.results30]
end Go.Proofs.Tryz.Ai
end
section
/- mod and mewsref3: Check. -/
namespace Go.Proofs.Tryz.Ai
open Go Go.AI Go.Proofs
set_option maxHeartbeats 4000000
set_option linter.unusedVariables false

theorem Check_eq (p v : List UInt8) (hp : p.length ≤ 2 ^ 39) (hv : v.length ≤ 2 ^ 39) (σ) : ev 33 [.agg [.str p, .str v]] σ = some (.int .i64 (checkB p v), σ) := by
  have h1 := CheckPath_eq p hp
  have h2 := Valid_eq v hv
  have h3 := Matches_eq v p hv hp
  refine EV_post rfl Tryz.func33 rfl (by simp [Tryz.ntmps33]) (by kernel_rfl) (by kernel_rfl) ?_
  by_cases c1 : pathB p = 0
  · rw [c1] at h1
    cases e2 : readB v with
    | none =>
      rw [e2] at h2
      have hf : checkB p v = 8 := by simp [checkB, c1, e2]
      simp (maxSteps := 4000000) [List.getElem?_cons_zero, List.getElem?_cons_succ, h1, h2, hf, Tryz.results33]
    | some x =>
      rw [e2] at h2
      cases e3 : matchesB v p with
      | false =>
        rw [e3] at h3
        have hf : checkB p v = 10 := by simp [checkB, c1, e2, e3]
        simp (maxSteps := 4000000) [List.getElem?_cons_zero, List.getElem?_cons_succ, h1, h2, h3, hf, Tryz.results33]
      | true =>
        rw [e3] at h3
        have hf : checkB p v = 0 := by simp [checkB, c1, e2, e3]
        simp (maxSteps := 4000000) [List.getElem?_cons_zero, List.getElem?_cons_succ, h1, h2, h3, hf, Tryz.results33]
  · have hf : checkB p v = pathB p := by simp [checkB, c1]
    simp (maxSteps := 4000000) [List.getElem?_cons_zero, List.getElem?_cons_succ, h1, c1, hf, Tryz.results33]
theorem rCheck_eq (p v : List UInt8) (hp : p.length ≤ 2 ^ 39) (hv : v.length ≤ 2 ^ 39) (σ) : ev 34 [.agg [.str p, .str v]] σ = some (.int .i64 (checkB p v), σ) := by
  have h1 := rCheckPath_eq p
  have h2 := rValid_eq v hv
  have h3 := rMatches_eq v p hv hp
  refine EV_post rfl Tryz.func34 rfl (by simp [Tryz.ntmps34]) (by kernel_rfl) (by kernel_rfl) ?_
  by_cases c1 : pathB p = 0
  · rw [c1] at h1
    cases e2 : readB v with
    | none =>
      rw [e2] at h2
      have hf : checkB p v = 8 := by simp [checkB, c1, e2]
      simp (maxSteps := 4000000) [List.getElem?_cons_zero, List.getElem?_cons_succ, h1, h2, hf, Tryz.results34]
    | some x =>
      rw [e2] at h2
      cases e3 : matchesB v p with
      | false =>
        rw [e3] at h3
        have hf : checkB p v = 10 := by simp [checkB, c1, e2, e3]
        simp (maxSteps := 4000000) [List.getElem?_cons_zero, List.getElem?_cons_succ, h1, h2, h3, hf, Tryz.results34]
      | true =>
        rw [e3] at h3
        have hf : checkB p v = 0 := by simp [checkB, c1, e2, e3]
        simp (maxSteps := 4000000) [List.getElem?_cons_zero, List.getElem?_cons_succ, h1, h2, h3, hf, Tryz.results34]
  · have hf : checkB p v = pathB p := by simp [checkB, c1]
    simp (maxSteps := 4000000) [List.getElem?_cons_zero, List.getElem?_cons_succ, h1, c1, hf, Tryz.results34]
end Go.Proofs.Tryz.Ai
end
section
/- mewslaw3: a number's digits. -/
namespace Go.Proofs.Tryz.Ai
open Go Go.AI Go.Proofs
set_option maxHeartbeats 4000000
set_option linter.unusedVariables false

theorem enc_dig (n : Nat) (h : n < 10) : (Utf8.encode (48 + (n : Int))).data.toList = [UInt8.ofNat (48 + n)] := by
  have hv : Utf8.valid (48 + (n : Int)) = true := by unfold Utf8.valid; simp; omega
  have hn : (48 + (n : Int)).toNat = 48 + n := by omega
  have h8 : 48 + n < 128 := by omega
  unfold Utf8.encode
  simp only [hv, if_true, hn, h8]
theorem wrap32 {n : Int} (h : -2147483648 ≤ n ∧ n ≤ 2147483647) : IntKind.i32.wrap n = n := by
  simp only [IntKind.wrap, IntKind.bits, IntKind.signed]; simp; omega
theorem digits_eq : ∀ n : Nat, n < 1000000000 → ∀ σ, ev 26 [.int .i64 n] σ = some (.str (Lib.decDigits n), σ) := by
  intro n
  induction n using Nat.strongRecOn with
  | _ n ih =>
  intro hn σ
  refine EV_post rfl Tryz.func26 rfl (by simp [Tryz.ntmps26]) (by kernel_rfl) (by kernel_rfl) ?_
  by_cases hc : n < 10
  · have w1 : IntKind.i64.wrap (48 + (n : Int)) = 48 + n := wrap64 (by omega)
    have w2 : IntKind.i32.wrap (48 + (n : Int)) = 48 + n := wrap32 (by omega)
    have he := enc_dig n hc
    have hd : Lib.decDigits n = [UInt8.ofNat (48 + n)] := Lib.decDigits_one hc
    simp (maxSteps := 4000000) [List.getElem?_cons_zero, List.getElem?_cons_succ, hc, w1, w2, he, hd, Tryz.results26]
  · obtain ⟨q, hq⟩ : ∃ q, n / 10 = q := ⟨_, rfl⟩
    obtain ⟨m, hm⟩ : ∃ m, n % 10 = m := ⟨_, rfl⟩
    have hm10 : m < 10 := by omega
    have e1 : (n : Int).tdiv 10 = (q : Int) := by rw [← hq]; exact Int.tdiv_eq_ediv_of_nonneg (by omega)
    have e2 : (n : Int).tmod 10 = (m : Int) := by rw [← hm]; exact Int.tmod_eq_emod_of_nonneg (by omega)
    have e3 : (n : Int) / 10 = (q : Int) := by omega
    have w0 : IntKind.i64.wrap (q : Int) = q := wrap64 (by omega)
    have w1 : IntKind.i64.wrap (48 + (m : Int)) = 48 + m := wrap64 (by omega)
    have w2 : IntKind.i32.wrap (48 + (m : Int)) = 48 + m := wrap32 (by omega)
    have he := enc_dig m hm10
    have hd : Lib.decDigits n = Lib.decDigits q ++ [UInt8.ofNat (48 + m)] := by rw [Lib.decDigits, dif_neg hc, hq, hm]
    have h2 := ih q (by omega) (by omega)
    have hl : (Lib.decDigits q).length ≤ 9 := decDigits_len 8 q (by omega)
    have hl2 : (Lib.decDigits q).length + 1 ≤ most := by unfold most; omega
    rw [hd]
    simp (maxSteps := 4000000) [List.getElem?_cons_zero, List.getElem?_cons_succ, hc, e1, e2, e3, w0, w1, w2, he, h2, hl2, need_true, Tryz.results26]
end Go.Proofs.Tryz.Ai
end
section
/- mewsref3: a time, a revision; ends of texts. -/
namespace Go.Proofs.Tryz.Ai
open Go Go.AI Go.Proofs
set_option maxHeartbeats 2000000
set_option linter.unusedVariables false

theorem suffix_drop {a b : List UInt8} (h : b.length ≤ a.length) : (a.drop (a.length - b.length) == b) = decide (b <:+ a) := by
  rw [Bool.eq_iff_iff, beq_iff_eq, decide_eq_true_iff, List.suffix_iff_eq_drop]
  exact ⟨fun h => h.symm, fun h => h.symm⟩
theorem Ends_eq (a b : List UInt8) (ha : a.length ≤ 2 ^ 40) (hb : b.length ≤ 2 ^ 40) (σ) : ev 89 [.str a, .str b] σ = some (.bool (decide (b <:+ a)), σ) := by
  refine EV_post rfl Tryz.func89 rfl (by simp [Tryz.ntmps89]) (by kernel_rfl) (by kernel_rfl) ?_
  by_cases hc : b.length ≤ a.length
  · obtain ⟨k, hk⟩ : ∃ k, a.length - b.length = k := ⟨_, rfl⟩
    have c1 : (b.length : Int) ≤ a.length := by omega
    have w1 : IntKind.i64.wrap ((a.length : Int) - b.length) = (k : Int) := by rw [wrap64 (by omega)]; omega
    have c2 : k ≤ a.length := by omega
    have e := suffix_drop hc
    rw [hk] at e
    simp (maxSteps := 4000000) [List.getElem?_cons_zero, List.getElem?_cons_succ, c1, hc, w1, c2, e, Tryz.results89]
  · have c1 : ¬ (b.length : Int) ≤ a.length := by omega
    have e : ¬ b <:+ a := fun h => hc h.length_le
    simp (maxSteps := 4000000) [List.getElem?_cons_zero, List.getElem?_cons_succ, c1, hc, e, Tryz.results89]
theorem HasSuffixL_eq (a b : List UInt8) (ha : a.length ≤ 2 ^ 40) (hb : b.length ≤ 2 ^ 40) (σ) : ev 135 [.str a, .str b] σ = some (.bool (decide (b <:+ a)), σ) := by
  refine EV_post rfl Tryz.func135 rfl (by simp [Tryz.ntmps135]) (by kernel_rfl) (by kernel_rfl) ?_
  by_cases hc : b.length ≤ a.length
  · obtain ⟨k, hk⟩ : ∃ k, a.length - b.length = k := ⟨_, rfl⟩
    have c1 : (b.length : Int) ≤ a.length := by omega
    have w1 : IntKind.i64.wrap ((a.length : Int) - b.length) = (k : Int) := by rw [wrap64 (by omega)]; omega
    have c2 : k ≤ a.length := by omega
    have e := suffix_drop hc
    rw [hk] at e
    simp (maxSteps := 4000000) [List.getElem?_cons_zero, List.getElem?_cons_succ, c1, hc, w1, c2, e, Tryz.results135]
  · have c1 : ¬ (b.length : Int) ≤ a.length := by omega
    have e : ¬ b <:+ a := fun h => hc h.length_le
    simp (maxSteps := 4000000) [List.getElem?_cons_zero, List.getElem?_cons_succ, c1, hc, e, Tryz.results135]
theorem CutSuffix_eq (a b : List UInt8) (ha : a.length ≤ 2 ^ 40) (hb : b.length ≤ 2 ^ 40) (σ) : ev 88 [.str a, .str b] σ = some (.tup [.str (if b <:+ a then a.take (a.length - b.length) else a), .bool (decide (b <:+ a))], σ) := by
  have h0 := HasSuffixL_eq a b ha hb
  have h1 : ∀ σ, ev 122 [.str a, .str b] σ = some (.tup [.str (if b <:+ a then a.take (a.length - b.length) else a), .bool (decide (b <:+ a))], σ) := by
    intro σ
    refine EV_post rfl Tryz.func122 rfl (by simp [Tryz.ntmps122]) (by kernel_rfl) (by kernel_rfl) ?_
    by_cases hc : b <:+ a
    · have hl := hc.length_le
      obtain ⟨k, hk⟩ : ∃ k, a.length - b.length = k := ⟨_, rfl⟩
      have w1 : IntKind.i64.wrap ((a.length : Int) - b.length) = (k : Int) := by rw [wrap64 (by omega)]; omega
      have c2 : k ≤ a.length := by omega
      simp (maxSteps := 4000000) [List.getElem?_cons_zero, List.getElem?_cons_succ, h0, hc, hk, w1, c2, Tryz.results122]
    · simp (maxSteps := 4000000) [List.getElem?_cons_zero, List.getElem?_cons_succ, h0, hc, Tryz.results122]
  refine EV_post rfl Tryz.func88 rfl (by simp [Tryz.ntmps88]) (by kernel_rfl) (by kernel_rfl) ?_
  simp (maxSteps := 4000000) [List.getElem?_cons_zero, List.getElem?_cons_succ, h1, Tryz.results88]
theorem within_eq (a b : UInt8) (ha : isD a = true) (hb : isD b = true) (lo hi : Int) (σ) : ev 120 [.str [a, b], .int .i64 lo, .int .i64 hi] σ = some (.bool (decide (lo ≤ num2 a b) && decide (num2 a b ≤ hi)), σ) := by
  have ha' : 48 ≤ a.toNat ∧ a.toNat ≤ 57 := of_decide_eq_true ha
  have hb' : 48 ≤ b.toNat ∧ b.toNat ≤ 57 := of_decide_eq_true hb
  have w1 : IntKind.u8.wrap ((a.toNat : Int) - 48) = (a.toNat : Int) - 48 := wrapU8 (by omega)
  have w2 : IntKind.u8.wrap ((b.toNat : Int) - 48) = (b.toNat : Int) - 48 := wrapU8 (by omega)
  have w3 : IntKind.i64.wrap ((a.toNat : Int) - 48) = (a.toNat : Int) - 48 := wrap64 (by omega)
  have w4 : IntKind.i64.wrap ((b.toNat : Int) - 48) = (b.toNat : Int) - 48 := wrap64 (by omega)
  have w5 : IntKind.i64.wrap (((a.toNat : Int) - 48) * 10) = ((a.toNat : Int) - 48) * 10 := wrap64 (by omega)
  have w6 : IntKind.i64.wrap (((a.toNat : Int) - 48) * 10 + ((b.toNat : Int) - 48)) = num2 a b := by rw [wrap64 (by omega)]; rfl
  generalize num2 a b = n at w6 ⊢
  refine EV_post rfl Tryz.func120 rfl (by simp [Tryz.ntmps120]) (by kernel_rfl) (by kernel_rfl) ?_
  by_cases h1 : lo ≤ n
  · simp (maxSteps := 4000000) [List.getElem?_cons_zero, List.getElem?_cons_succ, w1, w2, w3, w4, w5, w6, h1, Tryz.results120]
  · simp (maxSteps := 4000000) [List.getElem?_cons_zero, List.getElem?_cons_succ, w1, w2, w3, w4, w5, w6, h1, Tryz.results120]
theorem len14 (s : List UInt8) (h : s.length = 14) : ∃ c0 c1 c2 c3 c4 c5 c6 c7 c8 c9 c10 c11 c12 c13, s = [c0, c1, c2, c3, c4, c5, c6, c7, c8, c9, c10, c11, c12, c13] := by
  match s, h with
  | [c0, c1, c2, c3, c4, c5, c6, c7, c8, c9, c10, c11, c12, c13], _ => exact ⟨_, _, _, _, _, _, _, _, _, _, _, _, _, _, rfl⟩
theorem moment_eq (s : List UInt8) (hs : s.length ≤ 2 ^ 39) (σ) : ev 85 [.str s] σ = some (.bool (stampB s), σ) := by
  have ha := rdigits_eq s (by omega)
  refine EV_post rfl Tryz.func85 rfl (by simp [Tryz.ntmps85]) (by kernel_rfl) (by kernel_rfl) ?_
  by_cases h14 : s.length = 14
  · obtain ⟨c0, c1, c2, c3, c4, c5, c6, c7, c8, c9, c10, c11, c12, c13, rfl⟩ := len14 s h14
    cases hd : allB isD [c0, c1, c2, c3, c4, c5, c6, c7, c8, c9, c10, c11, c12, c13] with
    | false =>
      have hf : stampB [c0, c1, c2, c3, c4, c5, c6, c7, c8, c9, c10, c11, c12, c13] = false := by simp [stampB, hd]
      rw [hd] at ha
      simp (maxSteps := 4000000) [List.getElem?_cons_zero, List.getElem?_cons_succ, ha, hf, Tryz.results85]
    | true =>
      rw [hd] at ha
      have hD : ∀ c ∈ [c0, c1, c2, c3, c4, c5, c6, c7, c8, c9, c10, c11, c12, c13], isD c = true := by
        simp only [allB, Bool.and_eq_true] at hd
        exact List.all_eq_true.1 hd.1
      have d4 := hD c4 (by simp)
      have d5 := hD c5 (by simp)
      have d6 := hD c6 (by simp)
      have d7 := hD c7 (by simp)
      have d8 := hD c8 (by simp)
      have d9 := hD c9 (by simp)
      have d10 := hD c10 (by simp)
      have d11 := hD c11 (by simp)
      have d12 := hD c12 (by simp)
      have d13 := hD c13 (by simp)
      have hS : stampB [c0, c1, c2, c3, c4, c5, c6, c7, c8, c9, c10, c11, c12, c13] =
          ((decide (1 ≤ num2 c4 c5) && decide (num2 c4 c5 ≤ 12)) && ((decide (1 ≤ num2 c6 c7) && decide (num2 c6 c7 ≤ 31)) && ((decide (0 ≤ num2 c8 c9) && decide (num2 c8 c9 ≤ 23)) && ((decide (0 ≤ num2 c10 c11) && decide (num2 c10 c11 ≤ 59)) && (decide (0 ≤ num2 c12 c13) && decide (num2 c12 c13 ≤ 59)))))) := by
        unfold stampB
        rw [hd, inB_num (a := c4) (b := c5) rfl rfl d5 (by decide) (by decide), inB_num (a := c6) (b := c7) rfl rfl d7 (by decide) (by decide), inB_num (a := c8) (b := c9) rfl rfl d9 (by decide) (by decide), inB_num (a := c10) (b := c11) rfl rfl d11 (by decide) (by decide), inB_num (a := c12) (b := c13) rfl rfl d13 (by decide) (by decide)]
        rfl
      have q4 := fun σ => within_eq c4 c5 d4 d5 1 12 σ
      have q6 := fun σ => within_eq c6 c7 d6 d7 1 31 σ
      have q8 := fun σ => within_eq c8 c9 d8 d9 0 23 σ
      have q10 := fun σ => within_eq c10 c11 d10 d11 0 59 σ
      have q12 := fun σ => within_eq c12 c13 d12 d13 0 59 σ
      rw [hS]
      generalize (decide (1 ≤ num2 c4 c5) && decide (num2 c4 c5 ≤ 12)) = b4 at q4 ⊢
      generalize (decide (1 ≤ num2 c6 c7) && decide (num2 c6 c7 ≤ 31)) = b6 at q6 ⊢
      generalize (decide (0 ≤ num2 c8 c9) && decide (num2 c8 c9 ≤ 23)) = b8 at q8 ⊢
      generalize (decide (0 ≤ num2 c10 c11) && decide (num2 c10 c11 ≤ 59)) = b10 at q10 ⊢
      generalize (decide (0 ≤ num2 c12 c13) && decide (num2 c12 c13 ≤ 59)) = b12 at q12 ⊢
      clear hS hD hd
      cases b4 with
      | false => simp (maxSteps := 4000000) [List.getElem?_cons_zero, List.getElem?_cons_succ, ha, q4, Tryz.results85]
      | true =>
        cases b6 with
        | false => simp (maxSteps := 4000000) [List.getElem?_cons_zero, List.getElem?_cons_succ, ha, q4, q6, Tryz.results85]
        | true =>
          cases b8 with
          | false => simp (maxSteps := 4000000) [List.getElem?_cons_zero, List.getElem?_cons_succ, ha, q4, q6, q8, Tryz.results85]
          | true =>
            cases b10 with
            | false => simp (maxSteps := 4000000) [List.getElem?_cons_zero, List.getElem?_cons_succ, ha, q4, q6, q8, q10, Tryz.results85]
            | true => simp (maxSteps := 4000000) [List.getElem?_cons_zero, List.getElem?_cons_succ, ha, q4, q6, q8, q10, q12, Tryz.results85]
  · have hf : stampB s = false := by simp [stampB, h14]
    have h14' : ¬ (s.length : Int) = 14 := by omega
    simp (maxSteps := 4000000) [List.getElem?_cons_zero, List.getElem?_cons_succ, h14, h14', hf, Tryz.results85]
theorem rrevision_eq (s : List UInt8) (hl : s.length ≤ 2 ^ 39) (σ) : ev 86 [.str s] σ = some (.bool (revB s), σ) := by
  have hp := fun c σ => rdigit_eq c σ
  refine EV_post rfl Tryz.func86 rfl (by simp [Tryz.ntmps86]) (by kernel_rfl) (by kernel_rfl) ?_
  simp (maxSteps := 4000000) (disch := omega) [dT, dF, wrap64]
  refine Post_loop (I := fun i : Nat => ⟨[(0, .str s), (3, .int .i64 i)], [], σ⟩) (Pr := fun i => i ≤ s.length ∧ ∀ x ∈ s.take i, isX x = true) (μ := fun i => s.length - i) (a := 0) (by simp) (by simp) ?_
  rintro i ⟨hi, hn⟩
  by_cases hc : i < s.length
  · obtain ⟨c, hcx⟩ : ∃ c, s[i] = c := ⟨_, rfl⟩
    have hx : s[i]? = some c := by rw [← hcx]; exact List.getElem?_eq_getElem hc
    have w6 : IntKind.i64.wrap ((i : Int) + 1) = (i : Int) + 1 := wrap64 (by omega)
    have go : isX c = true → i + 1 ≤ s.length ∧ ∀ x ∈ s.take (i + 1), isX x = true := by
      intro h
      refine ⟨by omega, take_all hc hn (by rw [hcx]; exact h)⟩
    have no : isX c = false → revB s = false := by
      intro h
      have : s.all isX = false := by
        rw [Bool.eq_false_iff]; intro h2
        have := List.all_eq_true.1 h2 c (hcx ▸ List.getElem_mem hc)
        rw [h] at this; cases this
      simp [revB, allB, this]
    by_cases h1 : isD c = true
    · have h2 := go (by simp [isX, h1])
      simp (maxSteps := 4000000) [List.getElem?_cons_zero, List.getElem?_cons_succ, -getElem?_pos, hc, hx, hp, h1, w6]
      exact ⟨i + 1, h2, by omega, by simp⟩
    · have h1 : isD c = false := by simpa using h1
      by_cases h3 : c.toNat < 97
      · have h3' : (c.toNat : Int) < 97 := by omega
        have hf := no (by simp [isX, h1]; omega)
        simp (maxSteps := 4000000) [List.getElem?_cons_zero, List.getElem?_cons_succ, -getElem?_pos, hc, hx, hp, h1, h3, h3', hf, Tryz.results86]
      · have h3' : ¬ (c.toNat : Int) < 97 := by omega
        by_cases h4 : 102 < c.toNat
        · have h4' : (102 : Int) < (c.toNat : Int) := by omega
          have hf := no (by simp [isX, h1]; omega)
          simp (maxSteps := 4000000) [List.getElem?_cons_zero, List.getElem?_cons_succ, -getElem?_pos, hc, hx, hp, h1, h3, h3', h4, h4', hf, Tryz.results86]
        · have h4' : ¬ (102 : Int) < (c.toNat : Int) := by omega
          have h2 := go (by simp [isX]; omega)
          simp (maxSteps := 4000000) [List.getElem?_cons_zero, List.getElem?_cons_succ, -getElem?_pos, hc, hx, hp, h1, h3, h3', h4, h4', w6]
          exact ⟨i + 1, h2, by omega, by simp⟩
  · have hi' : i = s.length := by omega
    subst hi'
    rw [List.take_length] at hn
    have h2 : s.all isX = true := List.all_eq_true.2 hn
    by_cases h12 : s.length = 12
    · have hr : revB s = true := by
        cases s with
        | nil => simp at h12
        | cons a r => simp [revB, allB, h2, h12]
      have h12' : (s.length : Int) = 12 := by omega
      simp (maxSteps := 4000000) [List.getElem?_cons_zero, List.getElem?_cons_succ, hc, h12, h12', hr, Tryz.results86]
    · have hr : revB s = false := by simp [revB, h12]
      have h12' : ¬ (s.length : Int) = 12 := by omega
      simp (maxSteps := 4000000) [List.getElem?_cons_zero, List.getElem?_cons_succ, hc, h12, h12', hr, Tryz.results86]
end Go.Proofs.Tryz.Ai
end
section
/- Pseudo-versions taken apart. -/
namespace Go.Proofs.Tryz.Ai
open Go Go.AI Go.Proofs
set_option maxHeartbeats 1000000
set_option linter.unusedVariables false

def pA (r : List UInt8 × List UInt8 × List UInt8 × Bool) : AV := .tup [.str r.1, .str r.2.1, .str r.2.2.1, .bool r.2.2.2]
theorem SplitPseudo_eq (v : List UInt8) (hv : v.length ≤ 2 ^ 39) (σ) : ev 37 [.str v] σ = some (pA (splitPB v), σ) := by
  have hB := read_eq v hv
  refine EV_post rfl Tryz.func37 rfl (by simp [Tryz.ntmps37]) (by kernel_rfl) (by kernel_rfl) ?_
  cases e1 : readB v with
  | none =>
    rw [e1] at hB
    have hL := LastIndex1_eq [] (by simp) 46
    have hL' : ∀ σ, ev 70 [.str [], .str [46]] σ = some (.int .i64 (-1), σ) := hL
    have hs : splitPB v = noP := by unfold splitPB; rw [e1]
    have w0 : IntKind.i64.wrap 0 = 0 := by decide
    simp (maxSteps := 4000000) [List.getElem?_cons_zero, List.getElem?_cons_succ, hB, w0, verA, hL', hs, noP, pA, Tryz.results37]
  | some x =>
    rw [e1] at hB
    have rx := readB_some e1
    have h60 : v.length ≤ 60 := rx.len
    have hpl : x.pre.length ≤ 60 := by
      have := congrArg List.length rx.text
      unfold verT at this
      split at this
      · rename_i h; rw [h]; simp
      · simp at this; omega
    have hL := LastIndex1_eq x.pre (by omega) 46
    have hsp : splitPB v = if okP (idP x.pre) = false then noP else match lix 46 x.pre with
      | none => if x.mi = 0 ∧ x.pa = 0 then ([], (idP x.pre).take 14, (idP x.pre).drop 15, true) else noP
      | some d => if x.pre.take d = [48] ∧ 0 < x.pa then (coreT x.ma x.mi (x.pa - 1), (idP x.pre).take 14, (idP x.pre).drop 15, true)
        else if [46, 48] <:+ x.pre.take d ∧ x.pre.take (d - 2) ≠ [] then (coreT x.ma x.mi x.pa ++ 45 :: x.pre.take (d - 2), (idP x.pre).take 14, (idP x.pre).drop 15, true) else noP := by
      unfold splitPB; rw [e1]; rfl
    cases hx : lix 46 x.pre with
    | none =>
      have hid : idP x.pre = x.pre := by unfold idP; rw [hx]
      have hL' : ∀ σ, ev 70 [.str x.pre, .str [46]] σ = some (.int .i64 (-1), σ) := fun σ => by rw [hL σ, lixI_eq, hx]
      rw [hid, hx] at hsp
      simp only at hsp
      have hC := CutSuffix_eq [] [46, 48] (by simp) (by simp)
      have hC' : ∀ σ, ev 88 [.str [], .str [46, 48]] σ = some (.tup [.str [], .bool false], σ) := fun σ => by rw [hC σ]; rfl
      have w0 : IntKind.i64.wrap 0 = 0 := by decide
      generalize hI : x.pre = I at *
      by_cases l27 : I.length = 27
      · obtain ⟨c, hc⟩ : ∃ c, I[14]? = some c := ⟨_, List.getElem?_eq_getElem (by omega)⟩
        have hS := stamp_eq (I.take 14) (by simp; omega)
        have hR := revision_eq (I.drop 15) (by simp; omega)
        obtain ⟨A, hA⟩ : ∃ A, I.take 14 = A := ⟨_, rfl⟩
        obtain ⟨D, hD⟩ : ∃ A, I.drop 15 = A := ⟨_, rfl⟩
        rw [hA] at hS
        rw [hD] at hR
        have hok : okP I = (decide (c = 45) && (stampB A && revB D)) := by unfold okP; rw [hc, hA, hD]; simp [l27]
        rw [hok, hA, hD] at hsp
        have q14 : (14 : Nat) ≤ I.length := by omega
        have q15 : (15 : Nat) ≤ I.length := by omega
        by_cases hc45 : c = 45
        · subst hc45
          cases hSb : stampB A with
          | false =>
            rw [hSb] at hS hsp
            simp only [decide_true, Bool.true_and, Bool.false_and, if_true] at hsp
            simp (maxSteps := 4000000) [List.getElem?_cons_zero, List.getElem?_cons_succ, -getElem?_pos, hB, verA, hI, hL', w0, l27, hc, q14, q15, hA, hD, hS, hsp, noP, pA, Tryz.results37]
          | true =>
            cases hRb : revB D with
            | false =>
              rw [hSb] at hS; rw [hRb] at hR; rw [hSb, hRb] at hsp
              simp only [decide_true, Bool.true_and, Bool.and_false, if_true] at hsp
              simp (maxSteps := 4000000) [List.getElem?_cons_zero, List.getElem?_cons_succ, -getElem?_pos, hB, verA, hI, hL', w0, l27, hc, q14, q15, hA, hD, hS, hR, hsp, noP, pA, Tryz.results37]
            | true =>
              rw [hSb] at hS; rw [hRb] at hR; rw [hSb, hRb] at hsp
              by_cases hm : x.mi = 0
              · by_cases hp : x.pa = 0
                · have hsp : splitPB v = ([], A, D, true) := by rw [hsp]; simp [hm, hp]
                  simp (maxSteps := 4000000) [List.getElem?_cons_zero, List.getElem?_cons_succ, -getElem?_pos, hB, verA, hI, hL', w0, l27, hc, q14, q15, hA, hD, hS, hR, hC', hm, hp, hsp, noP, pA, Tryz.results37]
                · have hsp : splitPB v = noP := by rw [hsp]; simp [hm, hp]
                  simp (maxSteps := 4000000) [List.getElem?_cons_zero, List.getElem?_cons_succ, -getElem?_pos, hB, verA, hI, hL', w0, l27, hc, q14, q15, hA, hD, hS, hR, hC', hm, hp, hsp, noP, pA, Tryz.results37]
              · have hsp : splitPB v = noP := by rw [hsp]; simp [hm]
                simp (maxSteps := 4000000) [List.getElem?_cons_zero, List.getElem?_cons_succ, -getElem?_pos, hB, verA, hI, hL', w0, l27, hc, q14, q15, hA, hD, hS, hR, hC', hm, hsp, noP, pA, Tryz.results37]
        · have hsp : splitPB v = noP := by rw [hsp]; simp [hc45]
          simp (maxSteps := 4000000) [List.getElem?_cons_zero, List.getElem?_cons_succ, -getElem?_pos, hB, verA, hI, hL', w0, l27, hc, hc45, hsp, noP, pA, Tryz.results37]
      · have hok : okP I = false := by simp [okP, l27]
        have hsp : splitPB v = noP := by rw [hsp, hok]; rfl
        have l27' : ¬ (I.length : Int) = 27 := by omega
        simp (maxSteps := 4000000) [List.getElem?_cons_zero, List.getElem?_cons_succ, hB, verA, hI, hL', w0, l27, l27', hsp, noP, pA, Tryz.results37]
    | some d =>
      have hd := (lix_some hx).1
      have hid : idP x.pre = x.pre.drop (d + 1) := by unfold idP; rw [hx]
      have hL' : ∀ σ, ev 70 [.str x.pre, .str [46]] σ = some (.int .i64 d, σ) := fun σ => by rw [hL σ, lixI_eq, hx]
      rw [hid, hx] at hsp
      simp only at hsp
      obtain ⟨I, hI⟩ : ∃ I, x.pre.drop (d + 1) = I := ⟨_, rfl⟩
      have w1 : IntKind.i64.wrap ((d : Int) + 1) = (d : Int) + 1 := wrap64 (by omega)
      have q1 : d + 1 ≤ x.pre.length := by omega
      have q2 : d ≤ x.pre.length := by omega
      have q3 : ¬ (d : Int) < 0 := by omega
      obtain ⟨E, hE⟩ : ∃ E, x.pre.take d = E := ⟨_, rfl⟩
      have hEl : E.length = d := by rw [← hE]; simp; omega
      have hC := CutSuffix_eq E [46, 48] (by omega) (by simp)
      have hE2 : x.pre.take (d - 2) = E.take (E.length - [(46 : UInt8), 48].length) := by rw [← hE, List.take_take]; simp; congr 1; omega
      rw [hI, hE, hE2] at hsp
      obtain ⟨F, hF⟩ : ∃ F, E.take (E.length - [(46 : UInt8), 48].length) = F := ⟨_, rfl⟩
      have hFl : F.length ≤ 60 := by rw [← hF]; simp; omega
      rw [hF] at hsp hC
      clear hE2
      have hIl : I.length ≤ 60 := by rw [← hI]; simp; omega
      by_cases l27 : I.length = 27
      · obtain ⟨c, hc⟩ : ∃ c, I[14]? = some c := ⟨_, List.getElem?_eq_getElem (by omega)⟩
        have hS := stamp_eq (I.take 14) (by simp; omega)
        have hR := revision_eq (I.drop 15) (by simp; omega)
        obtain ⟨A, hA⟩ : ∃ A, I.take 14 = A := ⟨_, rfl⟩
        obtain ⟨D, hD⟩ : ∃ A, I.drop 15 = A := ⟨_, rfl⟩
        rw [hA] at hS
        rw [hD] at hR
        have hok : okP I = (decide (c = 45) && (stampB A && revB D)) := by unfold okP; rw [hc, hA, hD]; simp [l27]
        rw [hok, hA, hD] at hsp
        have q14 : (14 : Nat) ≤ I.length := by omega
        have q15 : (15 : Nat) ≤ I.length := by omega
        by_cases hc45 : c = 45
        · subst hc45
          cases hSb : stampB A with
          | false =>
            rw [hSb] at hS hsp
            simp only [decide_true, Bool.true_and, Bool.false_and, if_true] at hsp
            simp (maxSteps := 4000000) [List.getElem?_cons_zero, List.getElem?_cons_succ, -getElem?_pos, hB, verA, hL', w1, q1, hI, l27, hc, q14, q15, hA, hD, hS, hsp, noP, pA, Tryz.results37]
          | true =>
            cases hRb : revB D with
            | false =>
              rw [hSb] at hS; rw [hRb] at hR; rw [hSb, hRb] at hsp
              simp only [decide_true, Bool.true_and, Bool.and_false, if_true] at hsp
              simp (maxSteps := 4000000) [List.getElem?_cons_zero, List.getElem?_cons_succ, -getElem?_pos, hB, verA, hL', w1, q1, hI, l27, hc, q14, q15, hA, hD, hS, hR, hsp, noP, pA, Tryz.results37]
            | true =>
              rw [hSb] at hS; rw [hRb] at hR; rw [hSb, hRb] at hsp
              simp only [decide_true, Bool.true_and, Bool.and_true, reduceCtorEq, if_false] at hsp
              by_cases g1 : E = [48]
              · by_cases g2 : 0 < x.pa
                · rw [if_pos ⟨g1, g2⟩] at hsp
                  have w2 : IntKind.i64.wrap ((x.pa : Int) - 1) = ((x.pa - 1 : Nat) : Int) := by have := rx.pa; rw [wrap64 (by omega)]; omega
                  have hcore := core_eq x.ma x.mi (x.pa - 1) x.pre (by have := rx.ma; omega) (by have := rx.mi; omega) (by have := rx.pa; omega)
                  obtain ⟨n, hn⟩ : ∃ n, x.pa - 1 = n := ⟨_, rfl⟩
                  rw [hn] at hsp w2 hcore
                  subst g1
                  simp (maxSteps := 4000000) [List.getElem?_cons_zero, List.getElem?_cons_succ, -getElem?_pos, hB, verA, hL', w1, q1, q2, q3, hE, hI, l27, hc, q14, q15, hA, hD, hS, hR, hC, g2, w2, hcore, hsp, noP, pA, Tryz.results37]
                · rw [if_neg (fun h => g2 h.2), if_neg (by rintro ⟨h, _⟩; rw [g1] at h; revert h; decide)] at hsp
                  have hC' : ∀ σ, ev 88 [.str [48], .str [46, 48]] σ = some (.tup [.str [48], .bool false], σ) := fun σ => by
                    have := CutSuffix_eq [48] [46, 48] (by simp) (by simp) σ; rw [this]; rfl
                  clear hC
                  subst g1
                  simp (maxSteps := 4000000) [List.getElem?_cons_zero, List.getElem?_cons_succ, -getElem?_pos, hB, verA, hL', w1, q1, q2, q3, hE, hI, l27, hc, q14, q15, hA, hD, hS, hR, hC', g2, hsp, noP, pA, Tryz.results37]
              · rw [if_neg (fun h => g1 h.1)] at hsp
                have g1' : (E == [48]) = false := by simpa using g1
                by_cases g3 : [46, 48] <:+ E
                · by_cases g4 : F = []
                  · rw [if_neg (fun h => h.2 g4)] at hsp
                    rw [if_pos g3, g4] at hC
                    simp (maxSteps := 4000000) [List.getElem?_cons_zero, List.getElem?_cons_succ, -getElem?_pos, hB, verA, hL', w1, q1, q2, q3, hE, hI, l27, hc, q14, q15, hA, hD, hS, hR, hC, g1, g1', g3, hsp, noP, pA, Tryz.results37]
                  · rw [if_pos ⟨g3, g4⟩] at hsp
                    rw [if_pos g3] at hC
                    have g4' : F.isEmpty = false := by simpa using g4
                    have hcore := core_eq x.ma x.mi x.pa x.pre (by have := rx.ma; omega) (by have := rx.mi; omega) (by have := rx.pa; omega)
                    have hcl := coreT_len x.ma x.mi x.pa (by have := rx.ma; omega) (by have := rx.mi; omega) (by have := rx.pa; omega)
                    obtain ⟨K, hK⟩ : ∃ K, coreT x.ma x.mi x.pa = K := ⟨_, rfl⟩
                    rw [hK] at hsp hcore hcl
                    simp (maxSteps := 4000000) [List.getElem?_cons_zero, List.getElem?_cons_succ, -getElem?_pos, hB, verA, hL', w1, q1, q2, q3, hE, hI, l27, hc, q14, q15, hA, hD, hS, hR, hC, g1, g1', g3, g4, g4', hcore, hsp, noP, pA, Tryz.results37]
                    repeat (rw [need_of]; rotate_left; (· (try unfold most); omega); simp (maxSteps := 4000000) [List.getElem?_cons_zero, List.getElem?_cons_succ, -getElem?_pos, hB, verA, hL', w1, q1, q2, q3, hE, hI, l27, hc, q14, q15, hA, hD, hS, hR, hC, g1, g1', g3, g4, g4', hcore, hsp, noP, pA, Tryz.results37])
                · rw [if_neg (fun h => g3 h.1)] at hsp
                  rw [if_neg g3] at hC
                  simp (maxSteps := 4000000) [List.getElem?_cons_zero, List.getElem?_cons_succ, -getElem?_pos, hB, verA, hL', w1, q1, q2, q3, hE, hI, l27, hc, q14, q15, hA, hD, hS, hR, hC, g1, g1', g3, hsp, noP, pA, Tryz.results37]
        · have hsp : splitPB v = noP := by rw [hsp]; simp [hc45]
          simp (maxSteps := 4000000) [List.getElem?_cons_zero, List.getElem?_cons_succ, -getElem?_pos, hB, verA, hL', w1, q1, hI, l27, hc, hc45, hsp, noP, pA, Tryz.results37]
      · have hok : okP I = false := by simp [okP, l27]
        have hsp : splitPB v = noP := by rw [hsp, hok]; rfl
        have l27' : ¬ (I.length : Int) = 27 := by omega
        simp (maxSteps := 4000000) [List.getElem?_cons_zero, List.getElem?_cons_succ, hB, verA, hL', w1, q1, hI, l27, l27', hsp, noP, pA, Tryz.results37]
end Go.Proofs.Tryz.Ai
end
section
/- mewsref3: pseudo-versions made. -/
namespace Go.Proofs.Tryz.Ai
open Go Go.AI Go.Proofs
set_option maxHeartbeats 2000000
set_option linter.unusedVariables false

theorem rpseudo_eq (mj : Int) (base time rev : List UInt8) (hb : base.length ≤ 2 ^ 30) (ht : time.length ≤ 2 ^ 30) (hr : rev.length ≤ 2 ^ 30) (σ) :
    ev 36 [.int .i64 mj, .str base, .str time, .str rev] σ = some (.tup [.str (pseudoB mj base time rev).1, .int .i64 (pseudoB mj base time rev).2], σ) := by
  have hS := moment_eq time (by omega)
  have hR := rrevision_eq rev (by omega)
  have hB := rParts_eq base (by omega)
  refine EV_post rfl Tryz.func36 rfl (by simp [Tryz.ntmps36]) (by kernel_rfl) (by kernel_rfl) ?_
  by_cases a1 : mj < 0
  · simp (maxSteps := 4000000) [List.getElem?_cons_zero, List.getElem?_cons_succ, a1, pseudoB, Tryz.results36]
  · by_cases a2 : 999999999 < mj
    · simp (maxSteps := 4000000) [List.getElem?_cons_zero, List.getElem?_cons_succ, a1, a2, pseudoB, Tryz.results36]
    · by_cases a3 : stampB time = true
      · by_cases a4 : revB rev = true
        · obtain ⟨m, rfl⟩ := Int.eq_ofNat_of_zero_le (show 0 ≤ mj by omega)
          have a5 : m < 10 ^ 18 := by omega
          have lm : (Lib.decDigits m).length ≤ 9 := decDigits_len 8 m (by omega)
          have I1 := Itoa_eq m a5
          have d0 : Lib.decDigits 0 = [48] := d1 0 (by omega)
          obtain ⟨M, hM⟩ : ∃ M, Lib.decDigits m = M := ⟨_, rfl⟩
          rw [hM] at lm I1
          by_cases b1 : base = []
          · subst b1
            have e1 : readB [] = none := by simp [readB]
            rw [e1] at hB
            have hP : pseudoT m [] (time ++ 45 :: rev) = 118 :: (M ++ 46 :: 48 :: 46 :: 48 :: 45 :: (time ++ 45 :: rev)) := by simp [pseudoT, e1, coreT, d0, hM]
            have hpb : pseudoB m [] time rev = if (readB (118 :: (M ++ 46 :: 48 :: 46 :: 48 :: 45 :: (time ++ 45 :: rev)))).isSome then (118 :: (M ++ 46 :: 48 :: 46 :: 48 :: 45 :: (time ++ 45 :: rev)), 0) else ([], 8) := by
              unfold pseudoB; rw [if_neg (by omega), if_neg (by simp [a3, a4]), if_neg (by simp), Int.toNat_natCast, hP]
            rw [hpb]
            have hV := rValid_eq (118 :: (M ++ 46 :: 48 :: 46 :: 48 :: 45 :: (time ++ 45 :: rev))) (by simp; omega)
            by_cases v : (readB (118 :: (M ++ 46 :: 48 :: 46 :: 48 :: 45 :: (time ++ 45 :: rev)))).isSome = true
            · simp (maxSteps := 4000000) [List.getElem?_cons_zero, List.getElem?_cons_succ, a1, a2, hS, hR, hB, a3, a4, I1, hV, v, rpartsA, Tryz.results36]
              repeat (rw [need_of]; rotate_left; (· (try unfold most); omega); simp (maxSteps := 4000000) [List.getElem?_cons_zero, List.getElem?_cons_succ, a1, a2, hS, hR, hB, a3, a4, I1, hV, v, rpartsA, Tryz.results36])
            · simp (maxSteps := 4000000) [List.getElem?_cons_zero, List.getElem?_cons_succ, a1, a2, hS, hR, hB, a3, a4, I1, hV, v, rpartsA, Tryz.results36]
              repeat (rw [need_of]; rotate_left; (· (try unfold most); omega); simp (maxSteps := 4000000) [List.getElem?_cons_zero, List.getElem?_cons_succ, a1, a2, hS, hR, hB, a3, a4, I1, hV, v, rpartsA, Tryz.results36])
          · have b1' : base.isEmpty = false := by simpa using b1
            cases e1 : readB base with
            | none =>
              rw [e1] at hB
              have hpb : pseudoB m base time rev = ([], 8) := by
                unfold pseudoB; rw [if_neg (by omega), if_neg (by simp [a3, a4]), if_pos ⟨b1, by simp [e1]⟩]
              simp (maxSteps := 4000000) [List.getElem?_cons_zero, List.getElem?_cons_succ, a1, a2, hS, hR, hB, a3, a4, b1, b1', hpb, rpartsA, Tryz.results36]
            | some x =>
              rw [e1] at hB
              have rx := readB_some e1
              by_cases c1 : x.ma = m
              · subst c1
                have lx : base.length ≤ 60 := rx.len
                by_cases d1 : x.pre = []
                · have w1 : IntKind.i64.wrap ((x.pa : Int) + 1) = (x.pa : Int) + 1 := by have := rx.pa; rw [wrap64 (by omega)]
                  have l2 : (Lib.decDigits x.mi).length ≤ 9 := decDigits_len 8 x.mi (by have := rx.mi; omega)
                  have l3 : (Lib.decDigits (x.pa + 1)).length ≤ 10 := decDigits_len 9 (x.pa + 1) (by have := rx.pa; omega)
                  have I2 := Itoa_eq x.mi (by have := rx.mi; omega)
                  have I3' := Itoa_eq (x.pa + 1) (by have := rx.pa; omega)
                  have I3 : ∀ σ, ev 87 [.int .i64 ((x.pa : Int) + 1)] σ = some (.str (Lib.decDigits (x.pa + 1)), σ) := I3'
                  obtain ⟨X, hX⟩ : ∃ M, Lib.decDigits x.mi = M := ⟨_, rfl⟩
                  obtain ⟨Y, hY⟩ : ∃ M, Lib.decDigits (x.pa + 1) = M := ⟨_, rfl⟩
                  rw [hX] at l2 I2
                  rw [hY] at l3 I3
                  clear I3'
                  have hP : pseudoT x.ma base (time ++ 45 :: rev) = 118 :: (M ++ 46 :: (X ++ 46 :: (Y ++ 45 :: 48 :: 46 :: (time ++ 45 :: rev)))) := by simp [pseudoT, e1, b1, d1, coreT, hM, hX, hY]
                  have hpb : pseudoB x.ma base time rev = if (readB (118 :: (M ++ 46 :: (X ++ 46 :: (Y ++ 45 :: 48 :: 46 :: (time ++ 45 :: rev)))))).isSome then (118 :: (M ++ 46 :: (X ++ 46 :: (Y ++ 45 :: 48 :: 46 :: (time ++ 45 :: rev)))), 0) else ([], 8) := by
                    unfold pseudoB; rw [if_neg (by omega), if_neg (by simp [a3, a4]), if_neg (by simp [e1]), Int.toNat_natCast, hP]
                  rw [hpb]
                  have hV := rValid_eq (118 :: (M ++ 46 :: (X ++ 46 :: (Y ++ 45 :: 48 :: 46 :: (time ++ 45 :: rev))))) (by simp; omega)
                  by_cases v : (readB (118 :: (M ++ 46 :: (X ++ 46 :: (Y ++ 45 :: 48 :: 46 :: (time ++ 45 :: rev)))))).isSome = true
                  · simp (maxSteps := 4000000) [List.getElem?_cons_zero, List.getElem?_cons_succ, a1, a2, hS, hR, hB, a3, a4, I1, I2, I3, b1, b1', d1, w1, hV, v, rpartsA, Tryz.results36]
                    repeat (rw [need_of]; rotate_left; (· (try unfold most); omega); simp (maxSteps := 4000000) [List.getElem?_cons_zero, List.getElem?_cons_succ, a1, a2, hS, hR, hB, a3, a4, I1, I2, I3, b1, b1', d1, w1, hV, v, rpartsA, Tryz.results36])
                  · simp (maxSteps := 4000000) [List.getElem?_cons_zero, List.getElem?_cons_succ, a1, a2, hS, hR, hB, a3, a4, I1, I2, I3, b1, b1', d1, w1, hV, v, rpartsA, Tryz.results36]
                    repeat (rw [need_of]; rotate_left; (· (try unfold most); omega); simp (maxSteps := 4000000) [List.getElem?_cons_zero, List.getElem?_cons_succ, a1, a2, hS, hR, hB, a3, a4, I1, I2, I3, b1, b1', d1, w1, hV, v, rpartsA, Tryz.results36])
                · have d1' : x.pre.isEmpty = false := by simpa using d1
                  have hP : pseudoT x.ma base (time ++ 45 :: rev) = base ++ 46 :: 48 :: 46 :: (time ++ 45 :: rev) := by simp [pseudoT, e1, b1, d1]
                  have hpb : pseudoB x.ma base time rev = if (readB (base ++ 46 :: 48 :: 46 :: (time ++ 45 :: rev))).isSome then (base ++ 46 :: 48 :: 46 :: (time ++ 45 :: rev), 0) else ([], 8) := by
                    unfold pseudoB; rw [if_neg (by omega), if_neg (by simp [a3, a4]), if_neg (by simp [e1]), Int.toNat_natCast, hP]
                  rw [hpb]
                  have hV := rValid_eq (base ++ 46 :: 48 :: 46 :: (time ++ 45 :: rev)) (by simp; omega)
                  by_cases v : (readB (base ++ 46 :: 48 :: 46 :: (time ++ 45 :: rev))).isSome = true
                  · simp (maxSteps := 4000000) [List.getElem?_cons_zero, List.getElem?_cons_succ, a1, a2, hS, hR, hB, a3, a4, I1, b1, b1', d1, d1', hV, v, rpartsA, Tryz.results36]
                    repeat (rw [need_of]; rotate_left; (· (try unfold most); omega); simp (maxSteps := 4000000) [List.getElem?_cons_zero, List.getElem?_cons_succ, a1, a2, hS, hR, hB, a3, a4, I1, b1, b1', d1, d1', hV, v, rpartsA, Tryz.results36])
                  · simp (maxSteps := 4000000) [List.getElem?_cons_zero, List.getElem?_cons_succ, a1, a2, hS, hR, hB, a3, a4, I1, b1, b1', d1, d1', hV, v, rpartsA, Tryz.results36]
                    repeat (rw [need_of]; rotate_left; (· (try unfold most); omega); simp (maxSteps := 4000000) [List.getElem?_cons_zero, List.getElem?_cons_succ, a1, a2, hS, hR, hB, a3, a4, I1, b1, b1', d1, d1', hV, v, rpartsA, Tryz.results36])
              · have hpb : pseudoB m base time rev = ([], 8) := by
                  unfold pseudoB; rw [if_neg (by omega), if_neg (by simp [a3, a4]), if_pos ⟨b1, fun y hy => by rw [e1] at hy; injection hy with hy; subst hy; omega⟩]
                simp (maxSteps := 4000000) [List.getElem?_cons_zero, List.getElem?_cons_succ, a1, a2, hS, hR, hB, a3, a4, b1, b1', c1, hpb, rpartsA, Tryz.results36]
        · simp (maxSteps := 4000000) [List.getElem?_cons_zero, List.getElem?_cons_succ, a1, a2, hS, hR, a3, a4, pseudoB, Tryz.results36]
      · simp (maxSteps := 4000000) [List.getElem?_cons_zero, List.getElem?_cons_succ, a1, a2, hS, a3, pseudoB, Tryz.results36]
end Go.Proofs.Tryz.Ai
end
section
/- The document's: pseudo-versions taken apart. -/
namespace Go.Proofs.Tryz.Ai
open Go Go.AI Go.Proofs
set_option maxHeartbeats 1000000
set_option linter.unusedVariables false

theorem rSplitPseudo_eq (v : List UInt8) (hv : v.length ≤ 2 ^ 39) (σ) : ev 38 [.str v] σ = some (pA (refPB v), σ) := by
  have hB := rParts_eq v hv
  refine EV_post rfl Tryz.func38 rfl (by simp [Tryz.ntmps38]) (by kernel_rfl) (by kernel_rfl) ?_
  cases e1 : readB v with
  | none =>
    rw [e1] at hB
    have hs : refPB v = noP := by unfold refPB; rw [e1]
    simp (maxSteps := 4000000) [List.getElem?_cons_zero, List.getElem?_cons_succ, hB, rpartsA, hs, noP, pA, Tryz.results38]
  | some x =>
    rw [e1] at hB
    have rx := readB_some e1
    have h60 : v.length ≤ 60 := rx.len
    have hpl : x.pre.length ≤ 60 ∧ x.pre.length ≤ v.length := by
      have := congrArg List.length rx.text
      unfold verT at this
      split at this
      · rename_i h; rw [h]; simp
      · simp at this; omega
    have hsp : refPB v = if x.pre.length < 27 then noP else
      if okP (x.pre.drop (x.pre.length - 27)) = false then noP else
      if x.pre.take (x.pre.length - 27) = [] then (if x.mi = 0 ∧ x.pa = 0 then ([], (x.pre.drop (x.pre.length - 27)).take 14, (x.pre.drop (x.pre.length - 27)).drop 15, true) else noP)
      else if x.pre.take (x.pre.length - 27) = [48, 46] then (if x.pa = 0 then noP else (coreT x.ma x.mi (x.pa - 1), (x.pre.drop (x.pre.length - 27)).take 14, (x.pre.drop (x.pre.length - 27)).drop 15, true))
      else if [46, 48, 46] <:+ x.pre.take (x.pre.length - 27) then (v.take (v.length - 30), (x.pre.drop (x.pre.length - 27)).take 14, (x.pre.drop (x.pre.length - 27)).drop 15, true) else noP := by
      unfold refPB; rw [e1]
    by_cases hl : x.pre.length < 27
    · have hl' : (x.pre.length : Int) < 27 := by omega
      rw [if_pos hl] at hsp
      simp (maxSteps := 4000000) [List.getElem?_cons_zero, List.getElem?_cons_succ, hB, rpartsA, hl, hl', hsp, noP, pA, Tryz.results38]
    · have hl' : ¬ (x.pre.length : Int) < 27 := by omega
      rw [if_neg hl] at hsp
      obtain ⟨k, hk⟩ : ∃ k, x.pre.length - 27 = k := ⟨_, rfl⟩
      have wk : IntKind.i64.wrap ((x.pre.length : Int) - 27) = (k : Int) := by rw [wrap64 (by omega)]; omega
      have qk : k ≤ x.pre.length := by omega
      rw [hk] at hsp
      obtain ⟨I, hI⟩ : ∃ I, x.pre.drop k = I := ⟨_, rfl⟩
      obtain ⟨E, hE⟩ : ∃ I, x.pre.take k = I := ⟨_, rfl⟩
      rw [hI, hE] at hsp
      have l27 : I.length = 27 := by rw [← hI]; simp; omega
      have hEl : E.length = k := by rw [← hE]; simp; omega
      obtain ⟨c, hc⟩ : ∃ c, I[14]? = some c := ⟨_, List.getElem?_eq_getElem (by omega)⟩
      have hS := moment_eq (I.take 14) (by simp; omega)
      have hR := rrevision_eq (I.drop 15) (by simp; omega)
      obtain ⟨A, hA⟩ : ∃ A, I.take 14 = A := ⟨_, rfl⟩
      obtain ⟨D, hD⟩ : ∃ A, I.drop 15 = A := ⟨_, rfl⟩
      rw [hA] at hS
      rw [hD] at hR
      have hok : okP I = (decide (c = 45) && (stampB A && revB D)) := by unfold okP; rw [hc, hA, hD]; simp [l27]
      rw [hok, hA, hD] at hsp
      have q14 : (14 : Nat) ≤ I.length := by omega
      have q15 : (15 : Nat) ≤ I.length := by omega
      by_cases hc45 : c = 45
      · subst hc45
        cases hSb : stampB A with
        | false =>
          rw [hSb] at hS hsp
          simp only [decide_true, Bool.true_and, Bool.false_and, if_true] at hsp
          simp (maxSteps := 4000000) [List.getElem?_cons_zero, List.getElem?_cons_succ, -getElem?_pos, hB, rpartsA, hl, hl', wk, qk, hI, l27, hc, q14, q15, hA, hD, hS, hsp, noP, pA, Tryz.results38]
        | true =>
          cases hRb : revB D with
          | false =>
            rw [hSb] at hS; rw [hRb] at hR; rw [hSb, hRb] at hsp
            simp only [decide_true, Bool.true_and, Bool.and_false, if_true] at hsp
            simp (maxSteps := 4000000) [List.getElem?_cons_zero, List.getElem?_cons_succ, -getElem?_pos, hB, rpartsA, hl, hl', wk, qk, hI, l27, hc, q14, q15, hA, hD, hS, hR, hsp, noP, pA, Tryz.results38]
          | true =>
            rw [hSb] at hS; rw [hRb] at hR; rw [hSb, hRb] at hsp
            simp only [decide_true, Bool.true_and, Bool.and_true, reduceCtorEq, if_false] at hsp
            by_cases g0 : E = []
            · rw [if_pos g0] at hsp
              subst g0
              by_cases hm : x.mi = 0
              · by_cases hp : x.pa = 0
                · rw [if_pos ⟨hm, hp⟩] at hsp
                  simp (maxSteps := 4000000) [List.getElem?_cons_zero, List.getElem?_cons_succ, -getElem?_pos, hB, rpartsA, hl, hl', wk, qk, hI, hE, l27, hc, q14, q15, hA, hD, hS, hR, hm, hp, hsp, noP, pA, Tryz.results38]
                · rw [if_neg (fun h => hp h.2)] at hsp
                  simp (maxSteps := 4000000) [List.getElem?_cons_zero, List.getElem?_cons_succ, -getElem?_pos, hB, rpartsA, hl, hl', wk, qk, hI, hE, l27, hc, q14, q15, hA, hD, hS, hR, hm, hp, hsp, noP, pA, Tryz.results38]
              · rw [if_neg (fun h => hm h.1)] at hsp
                simp (maxSteps := 4000000) [List.getElem?_cons_zero, List.getElem?_cons_succ, -getElem?_pos, hB, rpartsA, hl, hl', wk, qk, hI, hE, l27, hc, q14, q15, hA, hD, hS, hR, hm, hsp, noP, pA, Tryz.results38]
            · rw [if_neg g0] at hsp
              have g0' : E.isEmpty = false := by simpa using g0
              by_cases g1 : E = [48, 46]
              · rw [if_pos g1] at hsp
                subst g1
                by_cases hp : x.pa = 0
                · rw [if_pos hp] at hsp
                  simp (maxSteps := 4000000) [List.getElem?_cons_zero, List.getElem?_cons_succ, -getElem?_pos, hB, rpartsA, hl, hl', wk, qk, hI, hE, l27, hc, q14, q15, hA, hD, hS, hR, hp, hsp, noP, pA, Tryz.results38]
                · rw [if_neg hp] at hsp
                  have w2 : IntKind.i64.wrap ((x.pa : Int) - 1) = ((x.pa - 1 : Nat) : Int) := by have := rx.pa; rw [wrap64 (by omega)]; omega
                  have I1 := Itoa_eq x.ma (by have := rx.ma; omega)
                  have I2 := Itoa_eq x.mi (by have := rx.mi; omega)
                  have I3 := Itoa_eq (x.pa - 1) (by have := rx.pa; omega)
                  have l1 : (Lib.decDigits x.ma).length ≤ 9 := decDigits_len 8 x.ma (by have := rx.ma; omega)
                  have l2 : (Lib.decDigits x.mi).length ≤ 9 := decDigits_len 8 x.mi (by have := rx.mi; omega)
                  have l3 : (Lib.decDigits (x.pa - 1)).length ≤ 9 := decDigits_len 8 (x.pa - 1) (by have := rx.pa; omega)
                  obtain ⟨n, hn⟩ : ∃ n, x.pa - 1 = n := ⟨_, rfl⟩
                  rw [hn] at hsp w2 I3 l3
                  have hK : coreT x.ma x.mi n = 118 :: (Lib.decDigits x.ma ++ 46 :: (Lib.decDigits x.mi ++ 46 :: Lib.decDigits n)) := rfl
                  rw [hK] at hsp
                  obtain ⟨X, hX⟩ : ∃ M, Lib.decDigits x.ma = M := ⟨_, rfl⟩
                  obtain ⟨Y, hY⟩ : ∃ M, Lib.decDigits x.mi = M := ⟨_, rfl⟩
                  obtain ⟨Z, hZ⟩ : ∃ M, Lib.decDigits n = M := ⟨_, rfl⟩
                  rw [hX] at I1 l1 hsp
                  rw [hY] at I2 l2 hsp
                  rw [hZ] at I3 l3 hsp
                  simp (maxSteps := 4000000) [List.getElem?_cons_zero, List.getElem?_cons_succ, -getElem?_pos, hB, rpartsA, hl, hl', wk, qk, hI, hE, l27, hc, q14, q15, hA, hD, hS, hR, hp, w2, I1, I2, I3, hsp, noP, pA, Tryz.results38]
                  repeat (rw [need_of]; rotate_left; (· (try unfold most); omega); simp (maxSteps := 4000000) [List.getElem?_cons_zero, List.getElem?_cons_succ, -getElem?_pos, hB, rpartsA, hl, hl', wk, qk, hI, hE, l27, hc, q14, q15, hA, hD, hS, hR, hp, w2, I1, I2, I3, hsp, noP, pA, Tryz.results38])
              · rw [if_neg g1] at hsp
                have g1' : (E == [48, 46]) = false := by simpa using g1
                have hEn := Ends_eq E [46, 48, 46] (by omega) (by simp)
                by_cases g3 : [46, 48, 46] <:+ E
                · rw [if_pos g3] at hsp
                  have h3 : 3 ≤ E.length := g3.length_le
                  obtain ⟨m, hm⟩ : ∃ m, v.length - 30 = m := ⟨_, rfl⟩
                  rw [hm] at hsp
                  have w3 : IntKind.i64.wrap ((v.length : Int) - 27) = (v.length : Int) - 27 := wrap64 (by omega)
                  have w4 : IntKind.i64.wrap ((v.length : Int) - 27 - 3) = (m : Int) := by rw [wrap64 (by omega)]; omega
                  have qm : m ≤ v.length := by omega
                  have hEn' : ∀ σ, ev 89 [.str E, .str [46, 48, 46]] σ = some (.bool true, σ) := fun σ => by rw [hEn σ]; simp [g3]
                  simp (maxSteps := 4000000) [List.getElem?_cons_zero, List.getElem?_cons_succ, -getElem?_pos, hB, rpartsA, hl, hl', wk, qk, hI, hE, l27, hc, q14, q15, hA, hD, hS, hR, g0, g0', g1, g1', hEn', w3, w4, qm, hsp, noP, pA, Tryz.results38]
                · rw [if_neg g3] at hsp
                  have hEn' : ∀ σ, ev 89 [.str E, .str [46, 48, 46]] σ = some (.bool false, σ) := fun σ => by rw [hEn σ]; simp [g3]
                  simp (maxSteps := 4000000) [List.getElem?_cons_zero, List.getElem?_cons_succ, -getElem?_pos, hB, rpartsA, hl, hl', wk, qk, hI, hE, l27, hc, q14, q15, hA, hD, hS, hR, g0, g0', g1, g1', hEn', hsp, noP, pA, Tryz.results38]
      · have hsp : refPB v = noP := by rw [hsp]; simp [hc45]
        simp (maxSteps := 4000000) [List.getElem?_cons_zero, List.getElem?_cons_succ, -getElem?_pos, hB, rpartsA, hl, hl', wk, qk, hI, l27, hc, hc45, hsp, noP, pA, Tryz.results38]
end Go.Proofs.Tryz.Ai
end
