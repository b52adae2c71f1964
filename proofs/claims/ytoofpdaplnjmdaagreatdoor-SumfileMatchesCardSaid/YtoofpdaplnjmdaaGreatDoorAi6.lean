/- Part 6 of a proof: a Go function is evaluated on abstract values (texts S4 .. S8); no conditions beyond those of each theorem. -/
import Derived.Test.YtoofpdaplnjmdaaGreatDoorAi5
set_option linter.all false
set_option linter.unusedVariables false
set_option linter.unusedSimpArgs false
set_option linter.unnecessarySimpa false
section
/- sumfile: a line is read; a text is read line by line. -/
namespace Go.Proofs.Tryz.Ai
open Go Go.AI Go.Proofs Go.B64
set_option maxHeartbeats 8000000
set_option maxRecDepth 4000
set_option linter.unusedVariables false

def goMod : List UInt8 := [47, 103, 111, 46, 109, 111, 100]
def mkLn (p v h : List UInt8) : Ln := if goMod <:+ v then ((p, v.take (v.length - 7)), 1, h) else ((p, v), 0, h)
def lineR (l : List Ln) (s : List UInt8) : List Ln × Int := match splitB 32 s with
  | [p, v, h] => if p = [] ∨ v = [] ∨ h = [] then ([], 11) else (l ++ [mkLn p v h], checkL l (mkLn p v h))
  | _ => ([], 11)
theorem lineR_not {l : List Ln} {s : List UInt8} (h : (splitB 32 s).length ≠ 3) : lineR l s = ([], 11) := by
  unfold lineR
  split
  · rename_i h2; rw [h2] at h; exact absurd rfl h
  · rfl
theorem line_eq (l : List Ln) (hl : l.length ≤ 2 ^ 28) (s : List UInt8) (hs : s.length ≤ 2 ^ 28) (σ) :
    ev 51 [.sl (.ex 42 4) (l.map lnF), .str s] σ = some (.tup [.sl (.ex 42 4) ((lineR l s).1.map lnF), .int .i64 (lineR l s).2], σ) := by
  have hS := Split1_eq s (by omega) 32
  have hm := fun x (hx : x ∈ splitB 32 s) => splitB_le hx
  have hml := splitB_many 32 s
  have hR := lineR_not (l := l) (s := s)
  by_cases h3 : (splitB 32 s).length = 3
  · obtain ⟨p, v, h, hW⟩ : ∃ p v h, splitB 32 s = [p, v, h] := by
      match hq : splitB 32 s, h3 with
      | [p, v, h], _ => exact ⟨p, v, h, rfl⟩
    have hR2 : lineR l s = if p = [] ∨ v = [] ∨ h = [] then ([], 11) else (l ++ [mkLn p v h], checkL l (mkLn p v h)) := by unfold lineR; rw [hW]
    rw [hW] at hS hm
    have hC := ContainsT_eq [p, v, h] (by simp) []
    simp only [List.map_cons, List.map_nil] at hS hC
    by_cases he : p = [] ∨ v = [] ∨ h = []
    · rw [if_pos he] at hR2
      have ha : [p, v, h].any (([] : List UInt8) == ·) = true := by
        rcases he with rfl | rfl | rfl <;> simp
      rw [ha] at hC
      refine EV_post rfl Tryz.func51 rfl (by simp [Tryz.ntmps51]) (by kernel_rfl) (by kernel_rfl) ?_
      simp (maxSteps := 4000000) [List.getElem?_cons_zero, List.getElem?_cons_succ, hS, hC, hR2, Tryz.results51]
    · rw [if_neg he] at hR2
      have ha : [p, v, h].any (([] : List UInt8) == ·) = false := by
        simp only [not_or] at he
        have e1 : (([] : List UInt8) == p) = false := by rw [beq_eq_false_iff_ne]; exact fun e => he.1 e.symm
        have e2 : (([] : List UInt8) == v) = false := by rw [beq_eq_false_iff_ne]; exact fun e => he.2.1 e.symm
        have e3 : (([] : List UInt8) == h) = false := by rw [beq_eq_false_iff_ne]; exact fun e => he.2.2 e.symm
        simp only [List.any_cons, List.any_nil, e1, e2, e3, Bool.or_false]
      rw [ha] at hC
      have hv := hm v (by simp)
      have hX := CutSuffix_eq v [47, 103, 111, 46, 109, 111, 100] (by omega) (by simp)
      have hlm : l.length + 1 ≤ most := by unfold most; omega
      by_cases hg : goMod <:+ v
      · have hmk : mkLn p v h = ((p, v.take (v.length - 7)), 1, h) := by unfold mkLn; rw [if_pos hg]
        have hg' : [47, 103, 111, 46, 109, 111, 100] <:+ v := hg
        rw [if_pos hg', decide_eq_true hg'] at hX
        have hck := check_eq l (by omega) (mkLn p v h) (by rw [hmk]; exact ⟨by have := hm p (by simp); simp; omega, by simp; omega, by have := hm h (by simp); simp; omega⟩)
        rw [hmk] at hck hR2
        obtain ⟨V, hV⟩ : ∃ V, v.take (v.length - 7) = V := ⟨_, rfl⟩
        have hV' : v.take (v.length - ([47, 103, 111, 46, 109, 111, 100] : List UInt8).length) = V := hV
        rw [hV'] at hX
        rw [hV] at hck hR2
        obtain ⟨E, hE⟩ : ∃ E, checkL l ((p, V), 1, h) = E := ⟨_, rfl⟩
        rw [hE] at hck hR2
        rw [hR2]
        clear hR2 hR hV hV' hE hmk ha
        rw [lnFx] at hck
        obtain ⟨L, hL⟩ : ∃ L, l.map lnF = L := ⟨_, rfl⟩
        have hLl : L.length = l.length := by rw [← hL]; simp
        have hall : allCells 4 L := by rw [← hL]; simp
        have hfin : (l ++ [((p, V), (1 : Int), h)]).map lnF = L ++ [.agg [.str p, .str V, .int .i64 1, .str h]] := by rw [List.map_append, hL]; rfl
        rw [← hLl] at hlm
        simp only [hfin]
        rw [hL] at hck ⊢
        refine EV_post rfl Tryz.func51 rfl (by simp [Tryz.ntmps51]) (by kernel_rfl) (by kernel_rfl) ?_
        simp (maxSteps := 4000000) [List.getElem?_cons_zero, List.getElem?_cons_succ, -regionA_true, hS, hC, hX]
        refine Post_bndD [9] _ (by rfl) (by simp (maxSteps := 4000000) [List.getElem?_cons_zero, List.getElem?_cons_succ, ]; exact rfl) ?_
        repeat (first
          | refine PostD_go _ (by rfl) (by rfl) (by simp (maxSteps := 4000000) [List.getElem?_cons_zero, List.getElem?_cons_succ, ]; exact rfl) (by first | exact .inl rfl | exact .inr rfl) (by rfl) ?_
          | refine PostD_no1 _ (by rfl) (by rfl) (by simp (maxSteps := 4000000) [List.getElem?_cons_zero, List.getElem?_cons_succ, ]; exact rfl) ?_)
        refine PostD_end ?_
        simp (maxSteps := 4000000) [List.getElem?_cons_zero, List.getElem?_cons_succ, -regionA_true]
        refine Post_bndD [] _ (by rfl) (by simp (maxSteps := 4000000) [List.getElem?_cons_zero, List.getElem?_cons_succ, ]; exact rfl) ?_
        repeat (first
          | refine PostD_go _ (by rfl) (by rfl) (by simp (maxSteps := 4000000) [List.getElem?_cons_zero, List.getElem?_cons_succ, hck, hlm, hall]; exact rfl) (by first | exact .inl rfl | exact .inr rfl) (by rfl) ?_
          | refine PostD_no1 _ (by rfl) (by rfl) (by simp (maxSteps := 4000000) [List.getElem?_cons_zero, List.getElem?_cons_succ, ]; exact rfl) ?_)
        refine PostD_end ?_
        simp (maxSteps := 4000000) [List.getElem?_cons_zero, List.getElem?_cons_succ, Tryz.results51]
      · have hmk : mkLn p v h = ((p, v), 0, h) := by unfold mkLn; rw [if_neg hg]
        have hg' : ¬ [47, 103, 111, 46, 109, 111, 100] <:+ v := hg
        rw [if_neg hg', decide_eq_false hg'] at hX
        have hck := check_eq l (by omega) (mkLn p v h) (by rw [hmk]; exact ⟨by have := hm p (by simp); simp; omega, by simp; omega, by have := hm h (by simp); simp; omega⟩)
        rw [hmk] at hck hR2
        obtain ⟨E, hE⟩ : ∃ E, checkL l ((p, v), 0, h) = E := ⟨_, rfl⟩
        rw [hE] at hck hR2
        rw [hR2]
        clear hR2 hR hE hmk ha
        rw [lnFx] at hck
        obtain ⟨L, hL⟩ : ∃ L, l.map lnF = L := ⟨_, rfl⟩
        have hLl : L.length = l.length := by rw [← hL]; simp
        have hall : allCells 4 L := by rw [← hL]; simp
        have hfin : (l ++ [((p, v), (0 : Int), h)]).map lnF = L ++ [.agg [.str p, .str v, .int .i64 0, .str h]] := by rw [List.map_append, hL]; rfl
        rw [← hLl] at hlm
        simp only [hfin]
        rw [hL] at hck ⊢
        refine EV_post rfl Tryz.func51 rfl (by simp [Tryz.ntmps51]) (by kernel_rfl) (by kernel_rfl) ?_
        simp (maxSteps := 4000000) [List.getElem?_cons_zero, List.getElem?_cons_succ, -regionA_true, hS, hC, hX]
        refine Post_bndD [9] _ (by rfl) (by simp (maxSteps := 4000000) [List.getElem?_cons_zero, List.getElem?_cons_succ, ]; exact rfl) ?_
        repeat (first
          | refine PostD_go _ (by rfl) (by rfl) (by simp (maxSteps := 4000000) [List.getElem?_cons_zero, List.getElem?_cons_succ, ]; exact rfl) (by first | exact .inl rfl | exact .inr rfl) (by rfl) ?_
          | refine PostD_no1 _ (by rfl) (by rfl) (by simp (maxSteps := 4000000) [List.getElem?_cons_zero, List.getElem?_cons_succ, ]; exact rfl) ?_)
        refine PostD_end ?_
        simp (maxSteps := 4000000) [List.getElem?_cons_zero, List.getElem?_cons_succ, -regionA_true]
        refine Post_bndD [] _ (by rfl) (by simp (maxSteps := 4000000) [List.getElem?_cons_zero, List.getElem?_cons_succ, ]; exact rfl) ?_
        repeat (first
          | refine PostD_go _ (by rfl) (by rfl) (by simp (maxSteps := 4000000) [List.getElem?_cons_zero, List.getElem?_cons_succ, hck, hlm, hall]; exact rfl) (by first | exact .inl rfl | exact .inr rfl) (by rfl) ?_
          | refine PostD_no1 _ (by rfl) (by rfl) (by simp (maxSteps := 4000000) [List.getElem?_cons_zero, List.getElem?_cons_succ, ]; exact rfl) ?_)
        refine PostD_end ?_
        simp (maxSteps := 4000000) [List.getElem?_cons_zero, List.getElem?_cons_succ, Tryz.results51]
  · rw [hR h3]
    have hWl : ¬ (((splitB 32 s).length : Nat) : Int) = 3 := by omega
    obtain ⟨W, hW⟩ : ∃ W, splitB 32 s = W := ⟨_, rfl⟩
    rw [hW] at hS hWl h3
    refine EV_post rfl Tryz.func51 rfl (by simp [Tryz.ntmps51]) (by kernel_rfl) (by kernel_rfl) ?_
    simp (maxSteps := 4000000) [List.getElem?_cons_zero, List.getElem?_cons_succ, hS, hWl, h3, Tryz.results51]
end Go.Proofs.Tryz.Ai
end
section
/- sumfile: a text is read line by line. -/
namespace Go.Proofs.Tryz.Ai
open Go Go.AI Go.Proofs Go.B64
set_option maxHeartbeats 8000000
set_option maxRecDepth 4000
set_option linter.unusedVariables false

def linesAV (r : List Ln ⊕ (Nat × Int)) : AV := match r with
  | .inl l => .tup [.sl .sh (l.map lnF), .int .i64 0, .int .i64 0]
  | .inr (n, e) => .tup [.sl .sh [], .int .i64 n, .int .i64 e]
theorem lines_eq (text : List UInt8) (hs : text.length ≤ 2 ^ 27) (g : FuncId) (hg : g < 100000) (cap : List AV) (read : List Ln → List UInt8 → List Ln × Int)
    (hlen : ∀ l s, (read l s).1.length ≤ l.length + 1)
    (h : ∀ (l : List Ln) (s : List UInt8) (σ : List (List AV)), l.length ≤ 2 ^ 28 → s.length ≤ 2 ^ 28 → ev g (.sl (.ex 42 4) (l.map lnF) :: .str s :: cap) σ = some (.tup [.sl (.ex 42 4) ((read l s).1.map lnF), .int .i64 (read l s).2], σ)) (σ : List (List AV)) :
    ev 50 [.str text, .fn g cap] σ = some (if 65536 < text.length then .tup [.sl .sh [], .int .i64 0, .int .i64 13] else linesAV (linesP read [] 0 (splitB 10 text)), σ) := by
  refine EV_post rfl Tryz.func50 rfl (by simp [Tryz.ntmps50]) (by kernel_rfl) (by kernel_rfl) ?_
  by_cases hc : 65536 < text.length
  · rw [if_pos hc]
    simp (maxSteps := 4000000) [List.getElem?_cons_zero, List.getElem?_cons_succ, hc, Tryz.results50]
  rw [if_neg hc]
  obtain ⟨R, hR⟩ : ∃ R, linesP read [] 0 (splitB 10 text) = R := ⟨_, rfl⟩
  rw [hR]
  simp (maxSteps := 4000000) [List.getElem?_cons_zero, List.getElem?_cons_succ, hc]
  refine Post_loop (I := fun q : List Ln × Nat × List UInt8 => ⟨[(1, .fn g cap), (7, .sl (.ex 42 4) (q.1.map lnF)), (8, .int .i64 q.2.1), (9, .str q.2.2)], [], σ⟩)
    (Pr := fun q => q.1.length ≤ q.2.1 ∧ q.2.1 + q.2.2.length ≤ text.length ∧ linesP read q.1 q.2.1 (splitB 10 q.2.2) = R) (μ := fun q => q.2.2.length) (a := ([], 0, text)) (by simp) ⟨by simp, by simp, hR⟩ ?_
  rintro ⟨l, n, rest⟩ ⟨h1, h2, h3⟩
  simp only at h1 h2 h3 ⊢
  by_cases hr : rest = []
  · subst hr
    have : R = .inl l := by rw [← h3]; rfl
    have hA : linesAV R = .tup [.sl .sh (l.map lnF), .int .i64 0, .int .i64 0] := by rw [this]; rfl
    simp (maxSteps := 4000000) [List.getElem?_cons_zero, List.getElem?_cons_succ, hA, Tryz.results50]
  · have hrn : (rest == []) = false := by simpa using hr
    have w1 : IntKind.i64.wrap ((n : Int) + 1) = ((n + 1 : Nat) : Int) := by rw [wrap64 (by omega)]; omega
    have hC := Cut1_eq rest (by omega) 10
    have hW := fun b e => when_eq b e
    have hF := fun a b => sfirst_eq [a, b] (by simp)
    simp only [List.map_cons, List.map_nil] at hF
    cases hi : ix 10 rest with
    | none =>
      have hcut : cutB 10 rest = (rest, [], false) := by unfold cutB; rw [hi]
      rw [hcut] at hC
      rw [splitB_none hi] at h3
      have hv := h l rest
      have hv := fun σ => hv σ (by omega) (by omega)
      obtain ⟨l', hl'⟩ : ∃ l', (read l rest).1 = l' := ⟨_, rfl⟩
      obtain ⟨e, he⟩ : ∃ e, (read l rest).2 = e := ⟨_, rfl⟩
      rw [hl', he] at hv
      by_cases he0 : e = 0
      · have : R = .inr (n + 1, 11) := by rw [← h3, linesP_end hr (by rw [he, he0])]
        have hA : linesAV R = .tup [.sl .sh [], .int .i64 ((n + 1 : Nat) : Int), .int .i64 11] := by rw [this]; rfl
        have hf : fstE [e, 11] = 11 := by rw [he0]; rfl
        simp (maxSteps := 4000000) [List.getElem?_cons_zero, List.getElem?_cons_succ, -Prod.forall, hrn, hC, hg, hv, hW, hF, hf, w1, hA, Tryz.results50]
      · have : R = .inr (n + 1, e) := by rw [← h3, linesP_bad (.inl hr) (by rw [he]; exact he0), he]
        have hA : linesAV R = .tup [.sl .sh [], .int .i64 ((n + 1 : Nat) : Int), .int .i64 e] := by rw [this]; rfl
        have hf : fstE [e, 11] = e := by simp [fstE, orI, he0]
        simp (maxSteps := 4000000) [List.getElem?_cons_zero, List.getElem?_cons_succ, -Prod.forall, hrn, hC, hg, hv, hW, hF, hf, he0, w1, hA, Tryz.results50]
    | some k =>
      have hcut : cutB 10 rest = (rest.take k, rest.drop (k + 1), true) := by unfold cutB; rw [hi]
      rw [hcut] at hC
      rw [splitB_ix hi] at h3
      have hk := (ix_some hi).1
      obtain ⟨s, hs1⟩ : ∃ s, rest.take k = s := ⟨_, rfl⟩
      obtain ⟨b, hb⟩ : ∃ b, rest.drop (k + 1) = b := ⟨_, rfl⟩
      have hsl : s.length ≤ rest.length := by rw [← hs1]; simp; omega
      have hbl : b.length + 1 ≤ rest.length := by rw [← hb]; simp; omega
      rw [hs1, hb] at hC h3
      have hv := h l s
      have hv := fun σ => hv σ (by omega) (by omega)
      have hln := hlen l s
      obtain ⟨l', hl'⟩ : ∃ l', (read l s).1 = l' := ⟨_, rfl⟩
      obtain ⟨e, he⟩ : ∃ e, (read l s).2 = e := ⟨_, rfl⟩
      rw [hl', he] at hv
      rw [hl'] at hln
      have hne := splitB_ne 10 b
      by_cases he0 : e = 0
      · have h3 : linesP read l' (n + 1) (splitB 10 b) = R := by rw [← h3, linesP_next hne (by rw [he, he0]), hl']
        have hf : fstE [e, 0] = 0 := by rw [he0]; rfl
        simp (maxSteps := 4000000) [List.getElem?_cons_zero, List.getElem?_cons_succ, -Prod.forall, -Prod.exists, hrn, hC, hg, hv, hW, hF, hf, w1]
        exact ⟨(l', n + 1, b), ⟨by simp; omega, by simp; omega, h3⟩, by simp; omega, by simp⟩
      · have : R = .inr (n + 1, e) := by rw [← h3, linesP_bad (.inr hne) (by rw [he]; exact he0), he]
        have hA : linesAV R = .tup [.sl .sh [], .int .i64 ((n + 1 : Nat) : Int), .int .i64 e] := by rw [this]; rfl
        have hf : fstE [e, 0] = e := by simp [fstE, orI, he0]
        simp (maxSteps := 4000000) [List.getElem?_cons_zero, List.getElem?_cons_succ, -Prod.forall, hrn, hC, hg, hv, hW, hF, hf, he0, w1, hA, Tryz.results50]
end Go.Proofs.Tryz.Ai
end
section
/- The document's order of versions. -/
namespace Go.Proofs.Tryz.Ai
open Go Go.AI Go.Proofs
set_option maxHeartbeats 2000000
set_option linter.unusedVariables false

theorem natC_ne {a b : Nat} (h : ¬ a = b) (y : Int) : orI (natC a b) y = natC a b := by
  have : ¬ natC a b = 0 := by
    unfold natC
    by_cases q : a < b
    · simp [q]
    · have : b < a := by omega
      simp [q, this]
  unfold orI; rw [if_neg this]
theorem natC_same {a : Nat} (y : Int) : orI (natC a a) y = y := by
  have : natC a a = 0 := by simp [natC]
  unfold orI; rw [if_pos this]
end Go.Proofs.Tryz.Ai
end
section
/- The order of modules. -/
namespace Go.Proofs.Tryz.Ai
open Go Go.AI Go.Proofs
set_option maxHeartbeats 2000000
set_option linter.unusedVariables false

def modA (m : List UInt8 × List UInt8) : AV := .agg [.str m.1, .str m.2]
def modC (a b : List UInt8 × List UInt8) : Int := orI (bytesC a.1 b.1) (cmpB a.2 b.2)
theorem TO.modC : TO modC := TO.bytes.prod TO.cmp
def modQ (m : List UInt8 × List UInt8) : Prop := m.1.length ≤ 2 ^ 30 ∧ m.2.length ≤ 2 ^ 30
theorem order_eqM (a b : List UInt8 × List UInt8) (ha : modQ a) (hb : modQ b) (σ) : ev 129 [.agg [.str a.1, .str a.2], .agg [.str b.1, .str b.2]] σ = some (.int .i64 (modC a b), σ) := by
  have h1 := Compare_eq a.1 b.1
  have h2 := cmpB_eq a.2 b.2 ha.2 hb.2
  have h3 := cmpOr_eq [bytesC a.1 b.1, cmpB a.2 b.2] (by simp)
  have h4 : modC a b = orL [bytesC a.1 b.1, cmpB a.2 b.2] := by
    unfold modC
    simp only [orL, List.foldr, orI]
    split
    · split
      · assumption
      · rfl
    · rfl
  simp only [List.map_cons, List.map_nil] at h3
  refine EV_post rfl Tryz.func129 rfl (by simp [Tryz.ntmps129]) (by kernel_rfl) (by kernel_rfl) ?_
  simp (maxSteps := 4000000) [List.getElem?_cons_zero, List.getElem?_cons_succ, h1, h2, h3, h4, Tryz.results129]
theorem Less_eq (a b : List UInt8 × List UInt8) (ha : modQ a) (hb : modQ b) (σ) : ev 84 [.agg [.str a.1, .str a.2], .agg [.str b.1, .str b.2]] σ = some (.bool (decide (modC a b < 0)), σ) := by
  have h := order_eqM a b ha hb
  refine EV_post rfl Tryz.func84 rfl (by simp [Tryz.ntmps84]) (by kernel_rfl) (by kernel_rfl) ?_
  simp (maxSteps := 4000000) [List.getElem?_cons_zero, List.getElem?_cons_succ, h, Tryz.results84]
end Go.Proofs.Tryz.Ai
end
section
/- Sorting a row of texts: exchanges. -/
namespace Go.Proofs.Tryz.Ai
open Go Go.AI Go.Proofs
set_option maxHeartbeats 1000000
set_option linter.unusedVariables false

def es : List UInt8 → List AV := fun x => [.str x]
theorem es_get {D : List (List UInt8)} {i : Nat} {x : List UInt8} (h : D[i]? = some x) : (rowE es D)[i]? = some (.str x) := by
  have := (rowE_split (E := es) (sz := 1) (fun _ => rfl) h).2
  rw [Nat.mul_one] at this
  rw [← List.head?_drop, this]; rfl
theorem es_set {D : List (List UInt8)} {i : Nat} {y : List UInt8} (h : i < D.length) : (rowE es D).take i ++ .str y :: (rowE es D).drop (i + 1) = rowE es (D.set i y) := by
  have := rowE_set (E := es) (sz := 1) (fun _ => rfl) (y := y) h
  rwa [Nat.mul_one] at this
theorem es_len {D : List (List UInt8)} : (rowE es D).length = D.length := by rw [rowE_len (E := es) (sz := 1) (fun _ => rfl), Nat.mul_one]
end Go.Proofs.Tryz.Ai
end
section
/- Sorting a row of texts: insertion, rotation. -/
namespace Go.Proofs.Tryz.Ai
open Go Go.AI Go.Proofs
set_option maxHeartbeats 400000
set_option linter.unusedVariables false

/-- a function that compares -/
structure CmpOk (g : Nat) (c : List UInt8 → List UInt8 → Int) (Q : List UInt8 → Prop) : Prop where
  tp : TP c
  lt : g < 100000
  run : ∀ x y, Q x → Q y → ∀ σ, ev g [.str x, .str y] σ = some (.int .i64 (c x y), σ)
end Go.Proofs.Tryz.Ai
end
section
/- Sorting a row of texts: rotation. -/
namespace Go.Proofs.Tryz.Ai
open Go Go.AI Go.Proofs
set_option maxHeartbeats 400000
set_option linter.unusedVariables false

end Go.Proofs.Tryz.Ai
end
section
/- Sorting a row of texts: merging. -/
namespace Go.Proofs.Tryz.Ai
open Go Go.AI Go.Proofs
set_option maxHeartbeats 400000
set_option linter.unusedVariables false

theorem half_w {i j : Nat} (h : i + j ≤ 2 ^ 31) : IntKind.i64.wrap ((i : Int) + j) = ((i + j : Nat) : Int) ∧ IntKind.u64.wrap (((i + j : Nat) : Int)) = ((i + j : Nat) : Int) ∧ Int.fdiv ((i + j : Nat) : Int) (2 ^ min 1 IntKind.u64.bits) = (((i + j) / 2 : Nat) : Int) ∧ IntKind.i64.wrap (((i + j) / 2 : Nat) : Int) = (((i + j) / 2 : Nat) : Int) := by
  refine ⟨by rw [wrap64 (by omega)]; omega, wrapU64 (by omega), by rw [show ((2 : Int) ^ min 1 IntKind.u64.bits) = 2 from by decide, Int.fdiv_eq_ediv_of_nonneg _ (by omega)]; omega, wrap64 (by omega)⟩
end Go.Proofs.Tryz.Ai
end
section
/- Sorting a row of texts: merging two rows. -/
namespace Go.Proofs.Tryz.Ai
open Go Go.AI Go.Proofs
set_option maxHeartbeats 2000000
set_option linter.unusedVariables false

theorem Post_of_eq {o : Option (Ex × St)} {st2 : St} {K : Ex → St → Prop} (e : o = some (.normal, st2)) (k : K .normal st2) : Post o K := ⟨_, _, e, k⟩
theorem cut_nums {l r a m e N : Nat} (hm : m = a + l) (he : e = m + r) (heN : e ≤ N) (hN : N ≤ 2 ^ 30) (hl : 2 ≤ l) (hr : 2 ≤ r) : ∃ mid nn p0 S0 S1 : Nat,
    (a ≤ S0 ∧ S0 ≤ S1 ∧ S1 ≤ mid ∧ S1 ≤ m ∧ mid ≤ S0 + r ∧ (S0 = a ∨ mid = S0 + r) ∧ (S1 = mid ∨ S1 = m) ∧ nn = mid + m ∧ p0 + 1 = nn ∧ a < mid ∧ mid < e) ∧
    IntKind.i64.wrap ((a : Int) + e) = ((a + e : Nat) : Int) ∧ IntKind.u64.wrap (((a + e : Nat) : Int)) = ((a + e : Nat) : Int) ∧ Int.fdiv ((a + e : Nat) : Int) (2 ^ min 1 IntKind.u64.bits) = (mid : Int) ∧ IntKind.i64.wrap (mid : Int) = (mid : Int) ∧
    IntKind.i64.wrap ((mid : Int) + m) = (nn : Int) ∧ IntKind.i64.wrap ((nn : Int) - 1) = (p0 : Int) ∧ (mid < m → IntKind.i64.wrap ((nn : Int) - e) = (S0 : Int) ∧ S1 = mid) ∧ (¬ mid < m → S0 = a ∧ S1 = m) := by
  have hmw := half_w (i := a) (j := e) (by omega)
  obtain ⟨h1, h2, h3, h4⟩ := hmw
  refine ⟨(a + e) / 2, (a + e) / 2 + m, (a + e) / 2 + m - 1, if (a + e) / 2 < m then (a + e) / 2 + m - e else a, if (a + e) / 2 < m then (a + e) / 2 else m, ?_, h1, h2, h3, h4, ?_, ?_, fun q => ?_, fun q => ?_⟩
  · clear h1 h2 h3 h4
    split <;> omega
  · rw [wrap64 (by omega)]; omega
  · rw [wrap64 (by omega)]; omega
  · rw [if_pos q, if_pos q]; exact ⟨by rw [wrap64 (by omega)]; omega, rfl⟩
  · rw [if_neg q, if_neg q]; exact ⟨rfl, rfl⟩
end Go.Proofs.Tryz.Ai
end
section
/- Sorting a row of texts: all of it. -/
namespace Go.Proofs.Tryz.Ai
open Go Go.AI Go.Proofs
set_option maxHeartbeats 2000000
set_option linter.unusedVariables false

end Go.Proofs.Tryz.Ai
end
section
/- Sorting a row of texts: exchanges. -/
namespace Go.Proofs.Tryz.Ai
open Go Go.AI Go.Proofs
set_option maxHeartbeats 1000000
set_option linter.unusedVariables false

def esL : (List UInt8 × List UInt8) × Int × List UInt8 → List AV := fun x => [.str x.1.1, .str x.1.2, .int .i64 x.2.1, .str x.2.2]
@[simp] theorem es_demL {D : List ((List UInt8 × List UInt8) × Int × List UInt8)} : (rowE esL D).map dem = rowE esL D := by
  induction D with
  | nil => rfl
  | cons a D ih => unfold rowE at *; rw [List.flatMap_cons, List.map_append, ih]; rfl
theorem es_getL {D : List ((List UInt8 × List UInt8) × Int × List UInt8)} {i : Nat} {x : (List UInt8 × List UInt8) × Int × List UInt8} (h : D[i]? = some x) : ((rowE esL D).drop (i * 4)).take 4 = [.str x.1.1, .str x.1.2, .int .i64 x.2.1, .str x.2.2] := by
  have := rowE_get (E := esL) (sz := 4) (fun _ => rfl) (fun _ => rfl) h
  rwa [List.map_take, List.map_drop, es_demL] at this
theorem es_bndL {D : List ((List UInt8 × List UInt8) × Int × List UInt8)} {i : Nat} {x : (List UInt8 × List UInt8) × Int × List UInt8} (h : D[i]? = some x) : i * 4 + 4 ≤ (rowE esL D).length := by
  have := (List.getElem?_eq_some_iff.1 h).1
  rw [rowE_len (E := esL) (sz := 4) (fun _ => rfl) D]; omega
theorem es_setL {D : List ((List UInt8 × List UInt8) × Int × List UInt8)} {i : Nat} {y : (List UInt8 × List UInt8) × Int × List UInt8} (h : i < D.length) : (rowE esL D).take (i * 4) ++ (.str y.1.1 :: .str y.1.2 :: .int .i64 y.2.1 :: .str y.2.2 :: (rowE esL D).drop (i * 4 + 4)) = rowE esL (D.set i y) :=
  rowE_set (E := esL) (sz := 4) (fun _ => rfl) h
theorem es_lenL {D : List ((List UInt8 × List UInt8) × Int × List UInt8)} : (rowE esL D).length = D.length * 4 := rowE_len (E := esL) (sz := 4) (fun _ => rfl) D
theorem swapRange_eqL (b : Nat) (σ : List (List AV)) (D : List ((List UInt8 × List UInt8) × Int × List UInt8)) (x y n g : Nat) (hN : D.length ≤ 2 ^ 30) (hx : x + n ≤ D.length) (hy : y + n ≤ D.length) (hb : b < σ.length) :
    ev 223 [.ms 42 4 b 0 D.length, .int .i64 x, .int .i64 y, .int .i64 n, .fn g []] (σ.set b (rowE esL D)) = some (.tup [], σ.set b (rowE esL (swapN D x y n))) := by
  refine EV_post rfl Tryz.func223 rfl (by simp [Tryz.ntmps223]) (by kernel_rfl) (by kernel_rfl) ?_
  simp (maxSteps := 4000000) [List.getElem?_cons_zero, List.getElem?_cons_succ, -Prod.forall]
  refine Post_loop (I := fun k : Nat => ⟨[(0, .ms 42 4 b 0 D.length), (1, .int .i64 x), (2, .int .i64 y), (3, .int .i64 n), (10, .int .i64 k)], [], σ.set b (rowE esL (swapN D x y k))⟩) (Pr := fun k => k ≤ n) (μ := fun k => n - k) (a := 0) (by simp [swapN]) (by simp) ?_
  intro k hk
  by_cases hc : k < n
  · have hs : swapN D x y (k + 1) = swap2 (swapN D x y k) (x + k) (y + k) := rfl
    obtain ⟨Dk, hDk⟩ : ∃ Dk, swapN D x y k = Dk := ⟨_, rfl⟩
    have hl : Dk.length = D.length := by rw [← hDk]; simp
    rw [hDk] at hs
    obtain ⟨i, hi⟩ : ∃ i, x + k = i := ⟨_, rfl⟩
    obtain ⟨j, hj⟩ : ∃ i, y + k = i := ⟨_, rfl⟩
    rw [hi, hj] at hs
    obtain ⟨u, hu⟩ : ∃ u, Dk[i]? = some u := ⟨_, List.getElem?_eq_getElem (by omega)⟩
    obtain ⟨v, hv⟩ : ∃ u, Dk[j]? = some u := ⟨_, List.getElem?_eq_getElem (by omega)⟩
    rw [swap2_eq hu hv] at hs
    have w1 : IntKind.i64.wrap ((x : Int) + k) = (i : Int) := by rw [wrap64 (by omega)]; omega
    have w2 : IntKind.i64.wrap ((y : Int) + k) = (j : Int) := by rw [wrap64 (by omega)]; omega
    have w3 : IntKind.i64.wrap ((k : Int) + 1) = (k : Int) + 1 := wrap64 (by omega)
    have q1 : i < D.length := by omega
    have q2 : j < D.length := by omega
    have q1' : i * 4 + 4 ≤ (rowE esL Dk).length := by rw [es_lenL]; omega
    have q2' : j * 4 + 4 ≤ (rowE esL (Dk.set i v)).length := by rw [es_lenL]; simp; omega
    have g1 := es_getL hu
    have r1 := es_bndL hu
    have g2 := es_getL hv
    have r2 := es_bndL hv
    have s1 := es_setL (D := Dk) (i := i) (y := v) (by omega)
    have s2 := es_setL (D := Dk.set i v) (i := j) (y := u) (by simp; omega)
    simp (maxSteps := 4000000) [List.getElem?_cons_zero, List.getElem?_cons_succ, -Prod.forall, -getElem?_pos, hc, hDk, w1, w2, w3, q1, q2, q1', q2', g1, g2, r1, r2, s1, s2, hb]
    exact ⟨k + 1, by omega, by omega, by simp [hs]⟩
  · have : k = n := by omega
    subst this
    simp (maxSteps := 4000000) [List.getElem?_cons_zero, List.getElem?_cons_succ, -Prod.forall, hc, Tryz.results223]
end Go.Proofs.Tryz.Ai
end
section
/- Sorting a row of texts: insertion, rotation. -/
namespace Go.Proofs.Tryz.Ai
open Go Go.AI Go.Proofs
set_option maxHeartbeats 400000
set_option linter.unusedVariables false

/-- a function that compares -/
structure CmpOkL (g : Nat) (c : ((List UInt8 × List UInt8) × Int × List UInt8) → ((List UInt8 × List UInt8) × Int × List UInt8) → Int) (Q : ((List UInt8 × List UInt8) × Int × List UInt8) → Prop) : Prop where
  tp : TP c
  lt : g < 100000
  run : ∀ x y, Q x → Q y → ∀ σ, ev g [.agg [.str x.1.1, .str x.1.2, .int .i64 x.2.1, .str x.2.2], .agg [.str y.1.1, .str y.1.2, .int .i64 y.2.1, .str y.2.2]] σ = some (.int .i64 (c x y), σ)
theorem insertion_eqL {g : Nat} {c : ((List UInt8 × List UInt8) × Int × List UInt8) → ((List UInt8 × List UInt8) × Int × List UInt8) → Int} {Q : ((List UInt8 × List UInt8) × Int × List UInt8) → Prop} (h : CmpOkL g c Q) (b : Nat) (σ : List (List AV)) (pre L post : List ((List UInt8 × List UInt8) × Int × List UInt8)) (hL : ∀ x ∈ L, Q x) (N a e : Nat) (hN : N ≤ 2 ^ 30) (hNe : N = pre.length + (L.length + post.length)) (ha : a = pre.length) (he : e = a + L.length) (hb : b < σ.length) :
    ev 159 [.ms 42 4 b 0 N, .int .i64 a, .int .i64 e, .fn g []] (σ.set b (rowE esL (pre ++ (L ++ post)))) = some (.tup [], σ.set b (rowE esL (pre ++ (isrt c L ++ post)))) := by
  refine EV_post rfl Tryz.func159 rfl (by simp [Tryz.ntmps159]) (by kernel_rfl) (by kernel_rfl) ?_
  have w0 : IntKind.i64.wrap ((a : Int) + 1) = (a : Int) + 1 := wrap64 (by omega)
  have hgl := h.lt
  simp (maxSteps := 4000000) [List.getElem?_cons_zero, List.getElem?_cons_succ, -Prod.forall, w0]
  refine Post_loop (I := fun k : Nat => ⟨[(0, .ms 42 4 b 0 N), (1, .int .i64 a), (2, .int .i64 e), (3, .fn g []), (8, .int .i64 ((a + k : Nat) : Int))], [], σ.set b (rowE esL (pre ++ (isrt c (L.take k) ++ (L.drop k ++ post))))⟩) (Pr := fun k => 1 ≤ k ∧ (k ≤ L.length ∨ L = [])) (μ := fun k => L.length - k) (a := 1)
    (by cases L with
        | nil => simp [isrt]
        | cons x L => simp [isrt, ins1]) (by cases L <;> simp) ?_
  rintro k ⟨hk1, hk2⟩
  by_cases hc : k < L.length
  · obtain ⟨x, hx⟩ : ∃ x, L[k]? = some x := ⟨_, List.getElem?_eq_getElem hc⟩
    have hQx := hL x (List.mem_of_getElem? hx)
    have hdrop : L.drop k = x :: L.drop (k + 1) := by rw [List.drop_eq_getElem_cons hc]; congr 1; exact (List.getElem?_eq_some_iff.1 hx).2
    have hS : isrt c (L.take (k + 1)) = mrg c (isrt c (L.take k)) [x] := by
      rw [List.take_add_one, hx]; exact isrt_snoc h.tp _ _
    have hSs := isrt_srt' h.tp (L.take k)
    have hSl : (isrt c (L.take k)).length = k := by rw [isrt_len]; simp; omega
    have hSQ : ∀ y ∈ isrt c (L.take k), Q y := fun y hy => hL y (List.mem_of_mem_take (isrt_mem.1 hy))
    rw [hdrop]
    obtain ⟨S, hSe⟩ : ∃ S, isrt c (L.take k) = S := ⟨_, rfl⟩
    rw [hSe] at hS hSs hSl hSQ ⊢
    obtain ⟨m, hm⟩ : ∃ m, a + k = m := ⟨_, rfl⟩
    have q0 : (m : Int) < e := by omega
    have q1 : m < e := by omega
    simp (maxSteps := 4000000) [List.getElem?_cons_zero, List.getElem?_cons_succ, -Prod.forall, hm, q1]
    refine Post_loop (I := fun u : Nat => ⟨[(0, .ms 42 4 b 0 N), (1, .int .i64 a), (2, .int .i64 e), (3, .fn g []), (8, .int .i64 m), (9, .int .i64 ((a + u : Nat) : Int))], [], σ.set b (rowE esL (pre ++ (S.take u ++ x :: (S.drop u ++ (L.drop (k + 1) ++ post)))))⟩)
      (Pr := fun u => u ≤ k ∧ ∀ v ∈ S.drop u, c x v < 0) (μ := fun u => u) (a := k) (by simp [hm, ← hSl]; omega) (by simp [← hSl]) ?_
    rintro u ⟨hu, hV⟩
    have hfin : (∀ y, (S.take u).getLast? = some y → ¬ c x y < 0) → isrt c (L.take (k + 1)) = S.take u ++ x :: S.drop u := by
      intro hq
      rw [hS]
      have : S = S.take u ++ S.drop u := (List.take_append_drop u S).symm
      conv => lhs; rw [this]
      refine mrg_one (fun y hy => ?_) hV
      obtain ⟨z, hz⟩ : ∃ z, (S.take u).getLast? = some z := by
        cases hg : (S.take u).getLast? with
        | none => rw [List.getLast?_eq_none_iff] at hg; rw [hg] at hy; cases hy
        | some z => exact ⟨z, rfl⟩
      have h1 := hq z hz
      have hyz : y = z ∨ c y z ≤ 0 := by
        rw [this] at hSs
        have hs1 := (List.pairwise_append.1 hSs).1
        obtain ⟨ys, hys⟩ := List.getLast?_eq_some_iff.1 hz
        rw [hys] at hy hs1
        rcases List.mem_append.1 hy with hy | hy
        · exact .inr ((List.pairwise_append.1 hs1).2.2 y hy z (by simp))
        · simp at hy; exact .inl hy
      rcases hyz with rfl | hyz
      · exact h1
      · exact h.tp.nlt.2 (h.tp.trans _ _ _ hyz (h.tp.nlt.1 h1))
    obtain ⟨R, hR⟩ : ∃ R, L.drop (k + 1) ++ post = R := ⟨_, rfl⟩
    rw [hR]
    cases u with
    | zero =>
      have hf := hfin (by simp)
      have w2 : IntKind.i64.wrap ((m : Int) + 1) = (m : Int) + 1 := wrap64 (by omega)
      obtain ⟨D, hD⟩ : ∃ D, pre ++ (S.take 0 ++ x :: (S.drop 0 ++ R)) = D := ⟨_, rfl⟩
      rw [hD]
      simp (maxSteps := 4000000) [List.getElem?_cons_zero, List.getElem?_cons_succ, -Prod.forall, -regionA_true]
      refine Post_bndD [] _ (by rfl) (by simp (maxSteps := 4000000) [List.getElem?_cons_zero, List.getElem?_cons_succ, ]; exact rfl) ?_
      repeat (first
        | refine PostD_go _ (by rfl) (by rfl) (by simp (maxSteps := 4000000) [List.getElem?_cons_zero, List.getElem?_cons_succ, ]; exact rfl) (by first | exact .inl rfl | exact .inr rfl) (by rfl) ?_
        | refine PostD_no (by rfl) (by rfl) ?_)
      refine PostD_end ?_
      simp (maxSteps := 4000000) [List.getElem?_cons_zero, List.getElem?_cons_succ, -Prod.forall, w2]
      refine ⟨k + 1, ⟨by omega, by omega⟩, by omega, by omega, ?_⟩
      rw [hf, ← hD, ← hR]; simp
    | succ w =>
      obtain ⟨y, hy⟩ : ∃ y, S[w]? = some y := ⟨_, List.getElem?_eq_getElem (by omega)⟩
      have hQy := hSQ y (List.mem_of_getElem? hy)
      have hcmp := h.run x y hQx hQy
      have hB := bubL (pre := pre) (rest := R) (x := x) hy
      rw [← ha] at hB
      obtain ⟨D, hD⟩ : ∃ D, pre ++ (S.take (w + 1) ++ x :: (S.drop (w + 1) ++ R)) = D := ⟨_, rfl⟩
      rw [hD] at hB ⊢
      have hDl : D.length = N := by rw [← hD, ← hR]; simp; omega
      obtain ⟨i, hi⟩ : ∃ i, a + w = i := ⟨_, rfl⟩
      have hj : a + (w + 1) = i + 1 := by omega
      rw [hi, hj] at hB
      have w1 : IntKind.i64.wrap ((i : Int) + 1 - 1) = (i : Int) := by rw [wrap64 (by omega)]; omega
      have w2 : IntKind.i64.wrap ((m : Int) + 1) = (m : Int) + 1 := wrap64 (by omega)
      have p1 : (a : Int) < (i : Int) + 1 := by omega
      have p2 : ((i : Int) + 1).toNat = i + 1 := by omega
      have p3 : i + 1 < N := by omega
      have p4 : i < N := by omega
      have p5 : i * 4 + 4 ≤ (rowE esL D).length := by rw [es_lenL]; omega
      have p6 : (i + 1) * 4 + 4 ≤ (rowE esL D).length := by rw [es_lenL]; omega
      have p7 : (0 : Int) ≤ (i : Int) + 1 := by omega
      have g1 := es_getL hB.1
      have r1 := es_bndL hB.1
      have g2 := es_getL hB.2.1
      have r2 := es_bndL hB.2.1
      have s1 := es_setL (D := D) (i := i + 1) (y := y) (by omega)
      have s2 := es_setL (D := D.set (i + 1) y) (i := i) (y := x) (by simp; omega)
      have p8 : i * 4 + 4 ≤ (rowE esL (D.set (i + 1) y)).length := by rw [es_lenL]; simp; omega
      have hsw := hB.2.2
      rw [swap2_eq hB.2.1 hB.1] at hsw
      have hj2 : (a : Int) + ((w : Int) + 1) = ((i + 1 : Nat) : Int) := by omega
      have hi2 : (a : Int) + (w : Int) = (i : Int) := by omega
      obtain ⟨i1, hi1⟩ : ∃ z, i + 1 = z := ⟨_, rfl⟩
      have w1 : IntKind.i64.wrap ((i1 : Int) - 1) = (i : Int) := by rw [wrap64 (by omega)]; omega
      rw [hi1] at g2 r2 s1 p3 p6 hj2 hsw
      have s2 := es_setL (D := D.set i1 y) (i := i) (y := x) (by simp; omega)
      have p8 : i * 4 + 4 ≤ (rowE esL (D.set i1 y)).length := by rw [es_lenL]; simp; omega
      have p1 : a < i1 := by omega
      simp (maxSteps := 4000000) [List.getElem?_cons_zero, List.getElem?_cons_succ, -Prod.forall, -regionA_true, hj2]
      refine Post_bndD [] _ (by rfl) (by simp (maxSteps := 4000000) [List.getElem?_cons_zero, List.getElem?_cons_succ, ]; exact rfl) ?_
      repeat (first
        | refine PostD_go _ (by rfl) (by rfl) (by simp (maxSteps := 4000000) [List.getElem?_cons_zero, List.getElem?_cons_succ, -getElem?_pos, w1, p1, p3, p4, g1, g2, r1, r2, hgl, hcmp, hb]; exact rfl) (by first | exact .inl rfl | exact .inr rfl) (by rfl) ?_
        | refine PostD_no (by rfl) (by rfl) ?_)
      refine PostD_end ?_
      by_cases hlt : c x y < 0
      · have hV2 : ∀ v ∈ S.drop w, c x v < 0 := by
          have hd : S.drop w = y :: S.drop (w + 1) := by rw [List.drop_eq_getElem_cons (by omega)]; congr 1; exact (List.getElem?_eq_some_iff.1 hy).2
          rw [hd]
          intro v hv
          rcases List.mem_cons.1 hv with rfl | hv
          · exact hlt
          · exact hV v hv
        simp (maxSteps := 4000000) [List.getElem?_cons_zero, List.getElem?_cons_succ, -Prod.forall, -regionA_true, hlt]
        refine Post_bndD [] _ (by rfl) (by simp (maxSteps := 4000000) [List.getElem?_cons_zero, List.getElem?_cons_succ, ]; exact rfl) ?_
        repeat (first
          | refine PostD_go _ (by rfl) (by rfl) (by simp (maxSteps := 4000000) [List.getElem?_cons_zero, List.getElem?_cons_succ, -getElem?_pos, w1, p3, p4, p5, p6, p8, g1, g2, r1, r2, s1, s2, hb]; exact rfl) (by first | exact .inl rfl | exact .inr rfl) (by rfl) ?_
          | refine PostD_no (by rfl) (by rfl) ?_)
        refine PostD_end ?_
        simp (maxSteps := 4000000) [List.getElem?_cons_zero, List.getElem?_cons_succ, -Prod.forall, w1]
        exact ⟨w, ⟨by omega, hV2⟩, by omega, hi2.symm, by rw [hsw]⟩
      · have hf := hfin (fun z hz => by
          have : (S.take (w + 1)).getLast? = some y := by rw [List.take_add_one, hy]; simp
          rw [this] at hz; injection hz with hz; subst hz; exact hlt)
        simp (maxSteps := 4000000) [List.getElem?_cons_zero, List.getElem?_cons_succ, -Prod.forall, hlt, w2]
        refine ⟨k + 1, ⟨by omega, by omega⟩, by omega, by omega, ?_⟩
        rw [hf, ← hD, ← hR]; simp
  · have hk : L.take k = L ∧ L.drop k = [] := by
      rcases hk2 with h | h
      · exact ⟨List.take_of_length_le (by omega), List.drop_of_length_le (by omega)⟩
      · subst h; simp
    rw [hk.1, hk.2]
    obtain ⟨m, hm⟩ : ∃ m, a + k = m := ⟨_, rfl⟩
    have q1 : ¬ m < e := by omega
    have hlow := lowS_setset (σ := σ) (b := b) (X := rowE esL (pre ++ (L ++ post))) (lowL_rowE (E := esL) (n := σ.length) (fun x => by simp [esL]) (pre ++ (isrt c L ++ ([] ++ post))))
    rw [hm]
    obtain ⟨X, hX⟩ : ∃ X, rowE esL (pre ++ (isrt c L ++ ([] ++ post))) = X := ⟨_, rfl⟩
    rw [hX] at hlow ⊢
    simp (maxSteps := 4000000) [List.getElem?_cons_zero, List.getElem?_cons_succ, -Prod.forall, q1]
    rw [need_of hlow, ← hX]
    simp
end Go.Proofs.Tryz.Ai
end
section
/- Sorting a row of texts: rotation. -/
namespace Go.Proofs.Tryz.Ai
open Go Go.AI Go.Proofs
set_option maxHeartbeats 400000
set_option linter.unusedVariables false

theorem rotate_eqL (b : Nat) (σ : List (List AV)) (pre U V post : List ((List UInt8 × List UInt8) × Int × List UInt8)) (g N a m e : Nat) (hN : N ≤ 2 ^ 30) (hNe : N = pre.length + (U.length + (V.length + post.length))) (ha : a = pre.length) (hm : m = a + U.length) (he : e = m + V.length) (hU : 0 < U.length) (hV : 0 < V.length) (hb : b < σ.length) :
    ev 198 [.ms 42 4 b 0 N, .int .i64 a, .int .i64 m, .int .i64 e, .fn g []] (σ.set b (rowE esL (pre ++ (U ++ (V ++ post))))) = some (.tup [], σ.set b (rowE esL (pre ++ (V ++ (U ++ post))))) := by
  refine EV_post rfl Tryz.func198 rfl (by simp [Tryz.ntmps198]) (by kernel_rfl) (by kernel_rfl) ?_
  have w0 : IntKind.i64.wrap ((m : Int) - a) = (U.length : Int) := by rw [wrap64 (by omega)]; omega
  have w1 : IntKind.i64.wrap ((e : Int) - m) = (V.length : Int) := by rw [wrap64 (by omega)]; omega
  simp (maxSteps := 4000000) [List.getElem?_cons_zero, List.getElem?_cons_succ, -Prod.forall, w0, w1]
  refine Post_loop (I := fun x : List ((List UInt8 × List UInt8) × Int × List UInt8) × List ((List UInt8 × List UInt8) × Int × List UInt8) × List ((List UInt8 × List UInt8) × Int × List UInt8) × List ((List UInt8 × List UInt8) × Int × List UInt8) => ⟨[(0, .ms 42 4 b 0 N), (2, .int .i64 m), (4, .fn g []), (10, .int .i64 x.2.1.length), (11, .int .i64 x.2.2.1.length)], [], σ.set b (rowE esL (x.1 ++ (x.2.1 ++ (x.2.2.1 ++ x.2.2.2))))⟩)
    (Pr := fun x => x.1.length + x.2.1.length = m ∧ 0 < x.2.1.length ∧ 0 < x.2.2.1.length ∧ x.1 ++ (x.2.2.1 ++ (x.2.1 ++ x.2.2.2)) = pre ++ (V ++ (U ++ post))) (μ := fun x => x.2.1.length + x.2.2.1.length) (a := (pre, U, V, post)) (by simp) (by simp; omega) ?_
  rintro ⟨p, X, Y, q⟩ ⟨h1, h2, h3, h4⟩
  simp only at h1 h2 h3 h4 ⊢
  have hl := congrArg List.length h4
  simp only [List.length_append] at hl
  obtain ⟨i, hi⟩ : ∃ i, X.length = i := ⟨_, rfl⟩
  obtain ⟨j, hj⟩ : ∃ j, Y.length = j := ⟨_, rfl⟩
  have hp : p.length = m - i := by omega
  obtain ⟨z, hz⟩ : ∃ z, m - i = z := ⟨_, rfl⟩
  have w2 : IntKind.i64.wrap ((m : Int) - i) = (z : Int) := by rw [wrap64 (by omega)]; omega
  have hlen : (p ++ (X ++ (Y ++ q))).length = N := by simp; omega
  by_cases hij : i = j
  · have hs := swapRange_eqL b σ (p ++ (X ++ ([] ++ (Y ++ q)))) z m i g (by simp; omega) (by simp; omega) (by simp; omega) hb
    have hsw := swapN_at (pre := p) (U := X) (mid := []) (V := Y) (post := q) (n := i) hi (by omega)
    have e1 : p.length + (i + ([] : List ((List UInt8 × List UInt8) × Int × List UInt8)).length) = m := by simp; omega
    rw [e1, hp, hz] at hsw
    rw [hsw] at hs
    simp only [List.nil_append] at hs
    rw [hlen, h4] at hs
    subst hij
    simp (maxSteps := 4000000) [List.getElem?_cons_zero, List.getElem?_cons_succ, -Prod.forall, hi, hj, w2, hs, Tryz.results198]
  · have hij' : ¬ (i : Int) = j := by omega
    by_cases hlt : j < i
    · have hX : X = X.take j ++ X.drop j := (List.take_append_drop j X).symm
      have hs := swapRange_eqL b σ (p ++ (X.take j ++ (X.drop j ++ (Y ++ q)))) z m j g (by simp; omega) (by simp; omega) (by simp; omega) hb
      have hsw := swapN_at (pre := p) (U := X.take j) (mid := X.drop j) (V := Y) (post := q) (n := j) (by simp; omega) hj
      have e1 : p.length + (j + (X.drop j).length) = m := by simp; omega
      rw [e1, hp, hz] at hsw
      rw [hsw] at hs
      have e2 : X.take j ++ (X.drop j ++ (Y ++ q)) = X ++ (Y ++ q) := by rw [← List.append_assoc, ← hX]
      rw [e2, hlen] at hs
      have w3 : IntKind.i64.wrap ((i : Int) - j) = ((i - j : Nat) : Int) := by rw [wrap64 (by omega)]; omega
      obtain ⟨r, hr⟩ : ∃ r, i - j = r := ⟨_, rfl⟩
      rw [hr] at w3
      simp (maxSteps := 4000000) [List.getElem?_cons_zero, List.getElem?_cons_succ, -Prod.forall, hi, hj, hij, hlt, w2, w3, hs]
      refine ⟨p ++ Y, X.drop j, X.take j, q, ⟨?_, ?_, ?_, ?_⟩, ?_, ?_, ?_⟩
      · simp; omega
      · simp; omega
      · simp; omega
      · rw [← h4]
        simp only [List.append_assoc]
        rw [← List.append_assoc (X.take j), ← hX]
      · simp; omega
      · simp; omega
      · simp
    · have hlt' : i < j := by omega
      have hY : Y = Y.take (j - i) ++ Y.drop (j - i) := (List.take_append_drop (j - i) Y).symm
      obtain ⟨r, hr⟩ : ∃ r, j - i = r := ⟨_, rfl⟩
      rw [hr] at hY
      have hs := swapRange_eqL b σ (p ++ (X ++ (Y.take r ++ (Y.drop r ++ q)))) z (m + r) i g (by simp; omega) (by simp; omega) (by simp; omega) hb
      have hsw := swapN_at (pre := p) (U := X) (mid := Y.take r) (V := Y.drop r) (post := q) (n := i) hi (by simp; omega)
      have e1 : p.length + (i + (Y.take r).length) = m + r := by simp; omega
      rw [e1, hp, hz] at hsw
      rw [hsw] at hs
      have e2 : Y.take r ++ (Y.drop r ++ q) = Y ++ q := by rw [← List.append_assoc, ← hY]
      rw [e2, hlen] at hs
      have w3 : IntKind.i64.wrap ((j : Int) - i) = (r : Int) := by rw [wrap64 (by omega)]; omega
      obtain ⟨y, hy⟩ : ∃ y, m + r = y := ⟨_, rfl⟩
      have w4 : IntKind.i64.wrap ((m : Int) + j) = (m : Int) + j := wrap64 (by omega)
      have w5 : IntKind.i64.wrap ((m : Int) + j - i) = (y : Int) := by rw [wrap64 (by omega)]; omega
      rw [hy] at hs
      simp (maxSteps := 4000000) [List.getElem?_cons_zero, List.getElem?_cons_succ, -Prod.forall, hi, hj, hij, hlt, w2, w3, w4, w5, hs]
      refine ⟨p, Y.drop r, Y.take r, X ++ q, ⟨?_, ?_, ?_, ?_⟩, ?_, ?_, ?_⟩
      · simp; omega
      · simp; omega
      · simp; omega
      · rw [← h4]
        rw [← List.append_assoc (Y.take r), ← hY]
      · simp; omega
      · simp; omega
      · simp
end Go.Proofs.Tryz.Ai
end
section
/- Sorting a row of texts: merging. -/
namespace Go.Proofs.Tryz.Ai
open Go Go.AI Go.Proofs
set_option maxHeartbeats 400000
set_option linter.unusedVariables false

/-- what a merge does -/
def MrgOkL (g : Nat) (c : ((List UInt8 × List UInt8) × Int × List UInt8) → ((List UInt8 × List UInt8) × Int × List UInt8) → Int) (Q : ((List UInt8 × List UInt8) × Int × List UInt8) → Prop) (n : Nat) : Prop :=
  ∀ (b : Nat) (σ : List (List AV)) (pre L R post : List ((List UInt8 × List UInt8) × Int × List UInt8)) (N a m e : Nat), L.length + R.length = n → N ≤ 2 ^ 30 → N = pre.length + (L.length + (R.length + post.length)) → a = pre.length → m = a + L.length → e = m + R.length → 0 < L.length → 0 < R.length →
    Srt c L → Srt c R → (∀ x ∈ L, Q x) → (∀ x ∈ R, Q x) → b < σ.length →
    ev 160 [.ms 42 4 b 0 N, .int .i64 a, .int .i64 m, .int .i64 e, .fn g []] (σ.set b (rowE esL (pre ++ (L ++ (R ++ post))))) = some (.tup [], σ.set b (rowE esL (pre ++ (mrg c L R ++ post))))
theorem merge_oneL {g : Nat} {c : ((List UInt8 × List UInt8) × Int × List UInt8) → ((List UInt8 × List UInt8) × Int × List UInt8) → Int} {Q : ((List UInt8 × List UInt8) × Int × List UInt8) → Prop} (h : CmpOkL g c Q) (b : Nat) (σ : List (List AV)) (pre : List ((List UInt8 × List UInt8) × Int × List UInt8)) (x : (List UInt8 × List UInt8) × Int × List UInt8) (R post : List ((List UInt8 × List UInt8) × Int × List UInt8)) (N a m e : Nat) (hN : N ≤ 2 ^ 30) (hNe : N = pre.length + (1 + (R.length + post.length))) (ha : a = pre.length) (hm : m = a + 1) (he : e = m + R.length)
    (hR : Srt c R) (hx : Q x) (hQ : ∀ x ∈ R, Q x) (hb : b < σ.length) :
    ev 160 [.ms 42 4 b 0 N, .int .i64 a, .int .i64 m, .int .i64 e, .fn g []] (σ.set b (rowE esL (pre ++ ([x] ++ (R ++ post))))) = some (.tup [], σ.set b (rowE esL (pre ++ (mrg c [x] R ++ post)))) := by
  obtain ⟨D, hD⟩ : ∃ D, pre ++ ([x] ++ (R ++ post)) = D := ⟨_, rfl⟩
  have hDl : D.length = N := by rw [← hD]; simp; omega
  have hDx : D[a]? = some x := by rw [← hD, ha]; simp
  have hDR : ∀ k, k < R.length → D[m + k]? = R[k]? := by
    intro k hk
    rw [← hD, hm, ha, List.getElem?_append_right (by omega), List.getElem?_append_right (by simp; omega), List.getElem?_append_left (by simp; omega)]
    congr 1; simp; omega
  have w0 : IntKind.i64.wrap ((m : Int) - a) = 1 := by rw [wrap64 (by omega)]; omega
  have hgl := h.lt
  rw [hD]
  refine EV_post rfl Tryz.func160 rfl (by simp [Tryz.ntmps160]) (by kernel_rfl) (by kernel_rfl) ?_
  simp (maxSteps := 4000000) [List.getElem?_cons_zero, List.getElem?_cons_succ, -Prod.forall, w0]
  refine Post_loop (I := fun p : Nat × Nat => ⟨[(0, .ms 42 4 b 0 N), (1, .int .i64 a), (4, .fn g []), (10, .int .i64 p.1), (11, .int .i64 p.2)], [], σ.set b (rowE esL D)⟩)
    (Pr := fun p => m ≤ p.1 ∧ p.1 ≤ p.2 ∧ p.2 ≤ e ∧ (∀ y ∈ R.take (p.1 - m), c y x < 0) ∧ (∀ y ∈ R.drop (p.2 - m), ¬ c y x < 0)) (μ := fun p => p.2 - p.1) (a := (m, e)) (by simp) (by simp [he]) ?_
  rintro ⟨i, j⟩ ⟨h1, h2, h3, h4, h5⟩
  simp only at h1 h2 h3 h4 h5 ⊢
  by_cases hc : i < j
  · have hw := half_w (i := i) (j := j) (by omega)
    obtain ⟨z, hz⟩ : ∃ z, i + j = z := ⟨_, rfl⟩
    obtain ⟨k, hk⟩ : ∃ z, (i + j) / 2 = z := ⟨_, rfl⟩
    rw [hk, hz] at hw
    obtain ⟨hw1, hw2, hw3, hw4⟩ := hw
    have hk1 : i ≤ k ∧ k < j := by omega
    obtain ⟨y, hy⟩ : ∃ y, R[k - m]? = some y := ⟨_, List.getElem?_eq_getElem (by omega)⟩
    have hDy : D[k]? = some y := by rw [← hy, ← hDR _ (by omega)]; congr 1; omega
    have g1 := es_getL hDx
    have r1 := es_bndL hDx
    have g2 := es_getL hDy
    have r2 := es_bndL hDy
    have hcmp := h.run y x (hQ y (List.mem_of_getElem? hy)) hx
    have p1 : k < N := by omega
    have p2 : a < N := by omega
    have w5 : IntKind.i64.wrap ((k : Int) + 1) = ((k + 1 : Nat) : Int) := by rw [wrap64 (by omega)]; omega
    simp (maxSteps := 4000000) [List.getElem?_cons_zero, List.getElem?_cons_succ, -Prod.forall, -regionA_true, hc, hw1, hw2, hw3, hw4]
    refine Post_bndD [] _ (by rfl) (by simp (maxSteps := 4000000) [List.getElem?_cons_zero, List.getElem?_cons_succ, ]; exact rfl) ?_
    repeat (first
      | refine PostD_go _ (by rfl) (by rfl) (by simp (maxSteps := 4000000) [List.getElem?_cons_zero, List.getElem?_cons_succ, -getElem?_pos, p1, p2, g1, g2, r1, r2, hgl, hcmp, hb]; exact rfl) (by first | exact .inl rfl | exact .inr rfl) (by rfl) ?_
      | refine PostD_no (by rfl) (by rfl) ?_)
    refine PostD_end ?_
    have hge : k - m < R.length := by omega
    by_cases hlt : c y x < 0
    · simp (maxSteps := 4000000) [List.getElem?_cons_zero, List.getElem?_cons_succ, -Prod.forall, hlt, w5]
      refine ⟨k + 1, j, ⟨by omega, by omega, by omega, fun w hw => ?_, fun w hw => ?_⟩, by omega, by simp⟩
      · obtain ⟨q, hq, hw⟩ := mem_take_get hw
        exact h.tp.le_lt (srt_get h.tp hR (by omega) hw hy) hlt
      · have := h5 w hw; omega
    · simp (maxSteps := 4000000) [List.getElem?_cons_zero, List.getElem?_cons_succ, -Prod.forall, hlt]
      refine ⟨i, k, ⟨by omega, by omega, by omega, fun w hw => ?_, fun w hw => ?_⟩, by omega, by simp, by simp⟩
      · exact h4 w hw
      · obtain ⟨q, hq, hw⟩ := mem_drop_get hw
        have := h.tp.nlt.1 hlt
        have := h.tp.trans _ _ _ this (srt_get h.tp hR hq hy hw)
        have := h.tp.flip x w; omega
  · have hij : i = j := by omega
    subst hij
    simp (maxSteps := 4000000) [List.getElem?_cons_zero, List.getElem?_cons_succ, -Prod.forall, hc]
    obtain ⟨p, hp⟩ : ∃ p, i - m = p := ⟨_, rfl⟩
    rw [hp] at h4 h5
    have hfin : mrg c [x] R = R.take p ++ x :: R.drop p := by
      conv => lhs; rw [← List.take_append_drop p R]
      exact mrg_one' h4 h5
    have hi : i = a + 1 + p := by omega
    have hpR : p ≤ R.length := by omega
    have w1 : IntKind.i64.wrap ((i : Int) - 1) = ((a + p : Nat) : Int) := by rw [wrap64 (by omega)]; omega
    refine Post_loop (I := fun u : Nat => ⟨[(0, .ms 42 4 b 0 N), (10, .int .i64 i), (13, .int .i64 ((a + u : Nat) : Int))], [], σ.set b (rowE esL (pre ++ (R.take u ++ x :: (R.drop u ++ post))))⟩)
      (Pr := fun u => u ≤ p) (μ := fun u => p - u) (a := 0) (by simp [← hD]) (by simp) ?_
    intro u hu
    by_cases huc : u < p
    · obtain ⟨y, hy⟩ : ∃ y, R[u]? = some y := ⟨_, List.getElem?_eq_getElem (by omega)⟩
      have hB := bubR (pre := pre) (rest := post) (x := x) hy
      rw [← ha] at hB
      obtain ⟨D', hD'⟩ : ∃ D', pre ++ (R.take u ++ x :: (R.drop u ++ post)) = D' := ⟨_, rfl⟩
      rw [hD'] at hB ⊢
      have hDl' : D'.length = N := by rw [← hD']; simp; omega
      obtain ⟨k, hk⟩ : ∃ z, a + u = z := ⟨_, rfl⟩
      obtain ⟨k1, hk1⟩ : ∃ z, k + 1 = z := ⟨_, rfl⟩
      have e1 : a + (u + 1) = k1 := by omega
      rw [hk, e1] at hB
      obtain ⟨z, hz⟩ : ∃ z, a + p = z := ⟨_, rfl⟩
      rw [hz] at w1
      have q1 : k < z := by omega
      have w2 : IntKind.i64.wrap ((k : Int) + 1) = (k1 : Int) := by rw [wrap64 (by omega)]; omega
      have g1 := es_getL hB.1
      have r1 := es_bndL hB.1
      have g2 := es_getL hB.2.1
      have r2 := es_bndL hB.2.1
      have s1 := es_setL (D := D') (i := k) (y := y) (by omega)
      have s2 := es_setL (D := D'.set k y) (i := k1) (y := x) (by simp; omega)
      have hsw := hB.2.2
      rw [swap2_eq hB.1 hB.2.1] at hsw
      have p1 : k < N := by omega
      have p2 : k1 < N := by omega
      have p5 : k * 4 + 4 ≤ (rowE esL D').length := by rw [es_lenL]; omega
      have p6 : k1 * 4 + 4 ≤ (rowE esL (D'.set k y)).length := by rw [es_lenL]; simp; omega
      rw [hk]
      simp (maxSteps := 4000000) [List.getElem?_cons_zero, List.getElem?_cons_succ, -Prod.forall, -regionA_true, w1, q1]
      refine Post_bndD [] _ (by rfl) (by simp (maxSteps := 4000000) [List.getElem?_cons_zero, List.getElem?_cons_succ, ]; exact rfl) ?_
      repeat (first
        | refine PostD_go _ (by rfl) (by rfl) (by simp (maxSteps := 4000000) [List.getElem?_cons_zero, List.getElem?_cons_succ, -getElem?_pos, w2, p1, p2, p5, p6, g1, g2, r1, r2, s1, s2, hb]; exact rfl) (by first | exact .inl rfl | exact .inr rfl) (by rfl) ?_
        | refine PostD_no (by rfl) (by rfl) ?_)
      refine PostD_end ?_
      simp (maxSteps := 4000000) [List.getElem?_cons_zero, List.getElem?_cons_succ, -Prod.forall, w2]
      exact ⟨u + 1, by omega, by omega, by omega, by rw [hsw]⟩
    · obtain rfl : u = p := by omega
      obtain ⟨k, hk⟩ : ∃ z, a + u = z := ⟨_, rfl⟩
      rw [hk] at w1 ⊢
      have hlow := lowS_setset (σ := σ) (b := b) (X := rowE esL D) (lowL_rowE (E := esL) (n := σ.length) (fun x => by simp [esL]) (pre ++ (mrg c [x] R ++ post)))
      have e2 : pre ++ (R.take u ++ x :: (R.drop u ++ post)) = pre ++ (mrg c [x] R ++ post) := by rw [hfin]; simp
      rw [e2]
      obtain ⟨X, hX⟩ : ∃ X, rowE esL (pre ++ (mrg c [x] R ++ post)) = X := ⟨_, rfl⟩
      rw [hX] at hlow ⊢
      simp (maxSteps := 4000000) [List.getElem?_cons_zero, List.getElem?_cons_succ, -Prod.forall, w1]
      rw [need_of hlow]
theorem merge_lastL {g : Nat} {c : ((List UInt8 × List UInt8) × Int × List UInt8) → ((List UInt8 × List UInt8) × Int × List UInt8) → Int} {Q : ((List UInt8 × List UInt8) × Int × List UInt8) → Prop} (h : CmpOkL g c Q) (b : Nat) (σ : List (List AV)) (pre : List ((List UInt8 × List UInt8) × Int × List UInt8)) (x : (List UInt8 × List UInt8) × Int × List UInt8) (L post : List ((List UInt8 × List UInt8) × Int × List UInt8)) (N a m e : Nat) (hN : N ≤ 2 ^ 30) (hNe : N = pre.length + (L.length + (1 + post.length))) (ha : a = pre.length) (hm : m = a + L.length) (he : e = m + 1) (h2 : 2 ≤ L.length)
    (hL : Srt c L) (hx : Q x) (hQ : ∀ x ∈ L, Q x) (hb : b < σ.length) :
    ev 160 [.ms 42 4 b 0 N, .int .i64 a, .int .i64 m, .int .i64 e, .fn g []] (σ.set b (rowE esL (pre ++ (L ++ ([x] ++ post))))) = some (.tup [], σ.set b (rowE esL (pre ++ (mrg c L [x] ++ post)))) := by
  obtain ⟨D, hD⟩ : ∃ D, pre ++ (L ++ ([x] ++ post)) = D := ⟨_, rfl⟩
  have hDl : D.length = N := by rw [← hD]; simp; omega
  have hDx : D[m]? = some x := by
    rw [← hD, hm, ha, List.getElem?_append_right (by omega), List.getElem?_append_right (by omega)]; simp
  have hDL : ∀ k, k < L.length → D[a + k]? = L[k]? := by
    intro k hk
    rw [← hD, ha, List.getElem?_append_right (by omega), List.getElem?_append_left (by omega)]
    congr 1; omega
  have w0 : IntKind.i64.wrap ((m : Int) - a) = (L.length : Int) := by rw [wrap64 (by omega)]; omega
  have w1 : IntKind.i64.wrap ((e : Int) - m) = 1 := by rw [wrap64 (by omega)]; omega
  have hgl := h.lt
  have q0 : ¬ (L.length : Int) = 1 := by omega
  have q0' : ¬ L.length = 1 := by omega
  rw [hD]
  refine EV_post rfl Tryz.func160 rfl (by simp [Tryz.ntmps160]) (by kernel_rfl) (by kernel_rfl) ?_
  simp (maxSteps := 4000000) [List.getElem?_cons_zero, List.getElem?_cons_succ, -Prod.forall, w0, w1, q0, q0']
  refine Post_loop (I := fun p : Nat × Nat => ⟨[(0, .ms 42 4 b 0 N), (2, .int .i64 m), (4, .fn g []), (14, .int .i64 p.1), (15, .int .i64 p.2)], [], σ.set b (rowE esL D)⟩)
    (Pr := fun p => a ≤ p.1 ∧ p.1 ≤ p.2 ∧ p.2 ≤ m ∧ (∀ y ∈ L.take (p.1 - a), ¬ c x y < 0) ∧ (∀ y ∈ L.drop (p.2 - a), c x y < 0)) (μ := fun p => p.2 - p.1) (a := (a, m)) (by simp) (by simp [hm]) ?_
  rintro ⟨i, j⟩ ⟨h1, h2, h3, h4, h5⟩
  simp only at h1 h2 h3 h4 h5 ⊢
  by_cases hc : i < j
  · have hw := half_w (i := i) (j := j) (by omega)
    obtain ⟨z, hz⟩ : ∃ z, i + j = z := ⟨_, rfl⟩
    obtain ⟨k, hk⟩ : ∃ z, (i + j) / 2 = z := ⟨_, rfl⟩
    rw [hk, hz] at hw
    obtain ⟨hw1, hw2, hw3, hw4⟩ := hw
    have hk1 : i ≤ k ∧ k < j := by omega
    obtain ⟨y, hy⟩ : ∃ y, L[k - a]? = some y := ⟨_, List.getElem?_eq_getElem (by omega)⟩
    have hDy : D[k]? = some y := by rw [← hy, ← hDL _ (by omega)]; congr 1; omega
    have g1 := es_getL hDx
    have r1 := es_bndL hDx
    have g2 := es_getL hDy
    have r2 := es_bndL hDy
    have hcmp := h.run x y hx (hQ y (List.mem_of_getElem? hy))
    have p1 : k < N := by omega
    have p2 : m < N := by omega
    have w5 : IntKind.i64.wrap ((k : Int) + 1) = ((k + 1 : Nat) : Int) := by rw [wrap64 (by omega)]; omega
    simp (maxSteps := 4000000) [List.getElem?_cons_zero, List.getElem?_cons_succ, -Prod.forall, -regionA_true, hc, hw1, hw2, hw3, hw4]
    refine Post_bndD [] _ (by rfl) (by simp (maxSteps := 4000000) [List.getElem?_cons_zero, List.getElem?_cons_succ, ]; exact rfl) ?_
    repeat (first
      | refine PostD_go _ (by rfl) (by rfl) (by simp (maxSteps := 4000000) [List.getElem?_cons_zero, List.getElem?_cons_succ, -getElem?_pos, p1, p2, g1, g2, r1, r2, hgl, hcmp, hb]; exact rfl) (by first | exact .inl rfl | exact .inr rfl) (by rfl) ?_
      | refine PostD_no (by rfl) (by rfl) ?_)
    refine PostD_end ?_
    by_cases hlt : c x y < 0
    · simp (maxSteps := 4000000) [List.getElem?_cons_zero, List.getElem?_cons_succ, -Prod.forall, hlt]
      refine ⟨i, k, ⟨by omega, by omega, by omega, fun w hw => ?_, fun w hw => ?_⟩, by omega, by simp, by simp⟩
      · have := h4 w hw; omega
      · obtain ⟨q, hq, hw⟩ := mem_drop_get hw
        exact h.tp.lt_le hlt (srt_get h.tp hL hq hy hw)
    · simp (maxSteps := 4000000) [List.getElem?_cons_zero, List.getElem?_cons_succ, -Prod.forall, hlt, w5]
      refine ⟨k + 1, j, ⟨by omega, by omega, by omega, fun w hw => ?_, fun w hw => ?_⟩, by omega, by simp⟩
      · obtain ⟨q, hq, hw⟩ := mem_take_get hw
        have := h.tp.trans _ _ _ (srt_get h.tp hL (by omega) hw hy) (h.tp.nlt.1 hlt)
        have := h.tp.flip x w; omega
      · exact h5 w hw
  · have hij : i = j := by omega
    subst hij
    simp (maxSteps := 4000000) [List.getElem?_cons_zero, List.getElem?_cons_succ, -Prod.forall, hc]
    obtain ⟨p, hp⟩ : ∃ p, i - a = p := ⟨_, rfl⟩
    rw [hp] at h4 h5
    have hfin : mrg c L [x] = L.take p ++ x :: L.drop p := by
      conv => lhs; rw [← List.take_append_drop p L]
      exact mrg_one h4 h5
    have hi : i = a + p := by omega
    have hpR : p ≤ L.length := by omega
    refine Post_loop (I := fun u : Nat => ⟨[(0, .ms 42 4 b 0 N), (14, .int .i64 i), (17, .int .i64 ((a + u : Nat) : Int))], [], σ.set b (rowE esL (pre ++ (L.take u ++ x :: (L.drop u ++ post))))⟩)
      (Pr := fun u => p ≤ u ∧ u ≤ L.length) (μ := fun u => u - p) (a := L.length) (by simp [← hD, hm]) (by simp; omega) ?_
    rintro u ⟨hu, hul⟩
    by_cases huc : p < u
    · obtain ⟨w, rfl⟩ : ∃ w, u = w + 1 := ⟨u - 1, by omega⟩
      obtain ⟨y, hy⟩ : ∃ y, L[w]? = some y := ⟨_, List.getElem?_eq_getElem (by omega)⟩
      have hB := bubL (pre := pre) (rest := post) (x := x) hy
      rw [← ha] at hB
      obtain ⟨D', hD'⟩ : ∃ D', pre ++ (L.take (w + 1) ++ x :: (L.drop (w + 1) ++ post)) = D' := ⟨_, rfl⟩
      rw [hD'] at hB ⊢
      have hDl' : D'.length = N := by rw [← hD']; simp; omega
      obtain ⟨k, hk⟩ : ∃ z, a + w = z := ⟨_, rfl⟩
      obtain ⟨k1, hk1⟩ : ∃ z, k + 1 = z := ⟨_, rfl⟩
      have e1 : a + (w + 1) = k1 := by omega
      rw [hk, e1] at hB
      have q1 : i < k1 := by omega
      have w2 : IntKind.i64.wrap ((k1 : Int) - 1) = (k : Int) := by rw [wrap64 (by omega)]; omega
      have g1 := es_getL hB.1
      have r1 := es_bndL hB.1
      have g2 := es_getL hB.2.1
      have r2 := es_bndL hB.2.1
      have s1 := es_setL (D := D') (i := k1) (y := y) (by omega)
      have s2 := es_setL (D := D'.set k1 y) (i := k) (y := x) (by simp; omega)
      have hsw := hB.2.2
      rw [swap2_eq hB.2.1 hB.1] at hsw
      have p1 : k < N := by omega
      have p2 : k1 < N := by omega
      have p5 : k1 * 4 + 4 ≤ (rowE esL D').length := by rw [es_lenL]; omega
      have p6 : k * 4 + 4 ≤ (rowE esL (D'.set k1 y)).length := by rw [es_lenL]; simp; omega
      rw [e1]
      simp (maxSteps := 4000000) [List.getElem?_cons_zero, List.getElem?_cons_succ, -Prod.forall, -regionA_true, q1]
      refine Post_bndD [] _ (by rfl) (by simp (maxSteps := 4000000) [List.getElem?_cons_zero, List.getElem?_cons_succ, ]; exact rfl) ?_
      repeat (first
        | refine PostD_go _ (by rfl) (by rfl) (by simp (maxSteps := 4000000) [List.getElem?_cons_zero, List.getElem?_cons_succ, -getElem?_pos, w2, p1, p2, p5, p6, g1, g2, r1, r2, s1, s2, hb]; exact rfl) (by first | exact .inl rfl | exact .inr rfl) (by rfl) ?_
        | refine PostD_no (by rfl) (by rfl) ?_)
      refine PostD_end ?_
      simp (maxSteps := 4000000) [List.getElem?_cons_zero, List.getElem?_cons_succ, -Prod.forall, w2]
      exact ⟨w, ⟨by omega, by omega⟩, by omega, by omega, by rw [hsw]⟩
    · obtain rfl : u = p := by omega
      have e3 : a + u = i := by omega
      rw [e3]
      have hlow := lowS_setset (σ := σ) (b := b) (X := rowE esL D) (lowL_rowE (E := esL) (n := σ.length) (fun x => by simp [esL]) (pre ++ (mrg c L [x] ++ post)))
      have e2 : pre ++ (L.take u ++ x :: (L.drop u ++ post)) = pre ++ (mrg c L [x] ++ post) := by rw [hfin]; simp
      rw [e2]
      obtain ⟨X, hX⟩ : ∃ X, rowE esL (pre ++ (mrg c L [x] ++ post)) = X := ⟨_, rfl⟩
      rw [hX] at hlow ⊢
      simp (maxSteps := 4000000) [List.getElem?_cons_zero, List.getElem?_cons_succ, -Prod.forall]
      rw [need_of hlow]
end Go.Proofs.Tryz.Ai
end
section
/- Sorting a row of texts: merging two rows. -/
namespace Go.Proofs.Tryz.Ai
open Go Go.AI Go.Proofs
set_option maxHeartbeats 2000000
set_option linter.unusedVariables false

theorem merge_eqL {g : Nat} {c : ((List UInt8 × List UInt8) × Int × List UInt8) → ((List UInt8 × List UInt8) × Int × List UInt8) → Int} {Q : ((List UInt8 × List UInt8) × Int × List UInt8) → Prop} (h : CmpOkL g c Q) (n : Nat) : MrgOkL g c Q n := by
  induction n using Nat.strongRecOn with
  | _ n ih =>
  intro b σ pre L R post N a m e hn hN hNe ha hm he hL0 hR0 hL hR hQL hQR hb
  by_cases l1 : L.length = 1
  · obtain ⟨x, rfl⟩ := List.length_eq_one_iff.1 l1
    exact merge_oneL h b σ pre x R post N a m e hN (by simpa using hNe) ha (by simpa using hm) he hR (hQL x (by simp)) hQR hb
  by_cases r1 : R.length = 1
  · obtain ⟨x, rfl⟩ := List.length_eq_one_iff.1 r1
    exact merge_lastL h b σ pre x L post N a m e hN (by simpa using hNe) ha hm (by simpa using he) (by omega) hL (hQR x (by simp)) hQL hb
  obtain ⟨D, hD⟩ : ∃ D, pre ++ (L ++ (R ++ post)) = D := ⟨_, rfl⟩
  have hDl : D.length = N := by rw [← hD]; simp; omega
  have hDL : ∀ k, k < L.length → D[a + k]? = L[k]? := by
    intro k hk
    rw [← hD, ha, List.getElem?_append_right (by omega), List.getElem?_append_left (by omega)]
    congr 1; omega
  have hDR : ∀ k, k < R.length → D[m + k]? = R[k]? := by
    intro k hk
    rw [← hD, hm, ha, List.getElem?_append_right (by omega), List.getElem?_append_right (by omega), List.getElem?_append_left (by omega)]
    congr 1; omega
  have w0 : IntKind.i64.wrap ((m : Int) - a) = (L.length : Int) := by rw [wrap64 (by omega)]; omega
  have w1 : IntKind.i64.wrap ((e : Int) - m) = (R.length : Int) := by rw [wrap64 (by omega)]; omega
  have hgl := h.lt
  have q0 : ¬ (L.length : Int) = 1 := by omega
  have q1 : ¬ (R.length : Int) = 1 := by omega
  obtain ⟨mid, nn, p0, S0, S1, k0, hw1, hw2, hw3, hw4, w2, w4, k1, k2⟩ := cut_nums (l := L.length) (r := R.length) (N := N) hm he (by omega) hN (by omega) (by omega)
  obtain ⟨k01, k02, k03, k04, k05, k06, k07, k08, k09, k10, k11⟩ := k0
  have hlow := lowS_setset (σ := σ) (b := b) (X := rowE esL D) (lowL_rowE (E := esL) (n := σ.length) (fun x => by simp [esL]) (pre ++ (mrg c L R ++ post)))
  rw [hD]
  obtain ⟨fin, hfin⟩ : ∃ X, rowE esL (pre ++ (mrg c L R ++ post)) = X := ⟨_, rfl⟩
  rw [hfin] at hlow ⊢
  refine EV_post rfl Tryz.func160 rfl (by simp [Tryz.ntmps160]) (by kernel_rfl) (by kernel_rfl) ?_
  have hae : ((a + e : Nat) : Int) = (a : Int) + e := by omega
  rw [hae] at hw1 hw2 hw3
  simp (maxSteps := 4000000) [List.getElem?_cons_zero, List.getElem?_cons_succ, -Prod.forall, w0, w1, q0, q1, l1, r1, hw1, hw2, hw3, hw4, w2]
  clear hae
  refine Post_of_eq (st2 := ⟨[(0, .ms 42 4 b 0 N), (1, .int .i64 a), (2, .int .i64 m), (3, .int .i64 e), (4, .fn g []), (18, .int .i64 mid), (19, .int .i64 nn), (20, .int .i64 S0), (21, .int .i64 S1)], [], σ.set b (rowE esL D)⟩) ?_ ?_
  · by_cases hmm : mid < m
    · obtain ⟨w3, e1⟩ := k1 hmm
      simp [hmm, w3, e1]
    · obtain ⟨e0, e1⟩ := k2 hmm
      simp [hmm, e0, e1]
  clear k1 k2
  simp (maxSteps := 4000000) [List.getElem?_cons_zero, List.getElem?_cons_succ, -Prod.forall, w4]
  clear w0 w1 w2 w4 hw1 hw2 hw3 hw4 q0 q1 l1 r1
  refine Post_loop (I := fun p : Nat × Nat => ⟨[(0, .ms 42 4 b 0 N), (1, .int .i64 a), (2, .int .i64 m), (3, .int .i64 e), (4, .fn g []), (18, .int .i64 mid), (19, .int .i64 nn), (20, .int .i64 p.1), (21, .int .i64 p.2), (22, .int .i64 p0)], [], σ.set b (rowE esL D)⟩)
    (Pr := fun p => S0 ≤ p.1 ∧ p.1 ≤ p.2 ∧ p.2 ≤ S1 ∧ (p.1 = S0 ∨ below1 c L R (p.1 - a) (mid - p.1)) ∧ (p.2 = S1 ∨ below2 c L R (p.2 - a) (mid - p.2))) (μ := fun p => p.2 - p.1) (a := (S0, S1)) (by simp) ⟨Nat.le_refl _, k02, Nat.le_refl _, .inl rfl, .inl rfl⟩ ?_
  rintro ⟨i, j⟩ ⟨h1, h2, h3, h4, h5⟩
  simp only at h1 h2 h3 h4 h5 ⊢
  by_cases hc : i < j
  · have hw := half_w (i := i) (j := j) (by omega)
    obtain ⟨z, hz⟩ : ∃ z, i + j = z := ⟨_, rfl⟩
    obtain ⟨k, hk⟩ : ∃ z, (i + j) / 2 = z := ⟨_, rfl⟩
    rw [hk, hz] at hw
    obtain ⟨hv1, hv2, hv3, hv4⟩ := hw
    have hk1 : i ≤ k ∧ k < j := by omega
    obtain ⟨x, hx⟩ : ∃ y, L[k - a]? = some y := ⟨_, List.getElem?_eq_getElem (by omega)⟩
    obtain ⟨y, hy⟩ : ∃ y, R[mid - k - 1]? = some y := ⟨_, List.getElem?_eq_getElem (by omega)⟩
    obtain ⟨k2, hk2⟩ : ∃ z, m + (mid - k - 1) = z := ⟨_, rfl⟩
    have hDx : D[k]? = some x := by rw [← hx, ← hDL _ (by omega)]; congr 1; omega
    have hDy : D[k2]? = some y := by rw [← hy, ← hDR _ (by omega), hk2]
    have g1 := es_getL hDx
    have r1 := es_bndL hDx
    have g2 := es_getL hDy
    have r2 := es_bndL hDy
    have hcmp := h.run y x (hQR y (List.mem_of_getElem? hy)) (hQL x (List.mem_of_getElem? hx))
    have p1 : k < N := by omega
    have p2 : k2 < N := by omega
    have v5 : IntKind.i64.wrap ((p0 : Int) - k) = (k2 : Int) := by rw [wrap64 (by omega)]; omega
    have v6 : IntKind.i64.wrap ((k : Int) + 1) = ((k + 1 : Nat) : Int) := by rw [wrap64 (by omega)]; omega
    simp (maxSteps := 4000000) [List.getElem?_cons_zero, List.getElem?_cons_succ, -Prod.forall, -regionA_true, hc, hv1, hv2, hv3, hv4]
    refine Post_bndD [] _ (by rfl) (by simp (maxSteps := 4000000) [List.getElem?_cons_zero, List.getElem?_cons_succ, ]; exact rfl) ?_
    repeat (first
      | refine PostD_go _ (by rfl) (by rfl) (by simp (maxSteps := 4000000) [List.getElem?_cons_zero, List.getElem?_cons_succ, -getElem?_pos, p1, p2, v5, g1, g2, r1, r2, hgl, hcmp, hb]; exact rfl) (by first | exact .inl rfl | exact .inr rfl) (by rfl) ?_
      | refine PostD_no (by rfl) (by rfl) ?_)
    refine PostD_end ?_
    by_cases hlt : c y x < 0
    · simp (maxSteps := 4000000) [List.getElem?_cons_zero, List.getElem?_cons_succ, -Prod.forall, hlt]
      refine ⟨i, k, ⟨by omega, by omega, by omega, ?_, .inr ⟨x, y, hx, hy, hlt⟩⟩, by omega, by simp, by simp⟩
      exact h4
    · simp (maxSteps := 4000000) [List.getElem?_cons_zero, List.getElem?_cons_succ, -Prod.forall, hlt, v6]
      refine ⟨k + 1, j, ⟨by omega, by omega, by omega, .inr ⟨x, y, ?_, ?_, hlt⟩, h5⟩, by omega, by simp⟩
      · rw [← hx]; congr 1; omega
      · rw [← hy]; congr 1
  · obtain rfl : i = j := by omega
    obtain ⟨s, hs⟩ : ∃ s, i - a = s := ⟨_, rfl⟩
    obtain ⟨t, ht⟩ : ∃ t, mid - i = t := ⟨_, rfl⟩
    rw [hs, ht] at h4 h5
    have hcut := mrg_cut h.tp hL hR (s := s) (t := t) (by
      rcases h4 with h4 | h4
      · by_cases q : s = 0
        · exact .inl q
        · exact .inr (.inl (by omega))
      · exact .inr (.inr h4)) (by
      rcases h5 with h5 | h5
      · by_cases q : t = 0
        · exact .inl q
        · exact .inr (.inl (by omega))
      · exact .inr (.inr h5))
    obtain ⟨E, hE⟩ : ∃ E, nn - i = E := ⟨_, rfl⟩
    have v1 : IntKind.i64.wrap ((nn : Int) - i) = (E : Int) := by rw [wrap64 (by omega)]; omega
    have hsL : s ≤ L.length := by omega
    have htR : t ≤ R.length := by omega
    have hi : i = a + s := by omega
    have hmi : mid = a + (s + t) := by omega
    have hEm : E = m + t := by omega
    clear h4 h5
    have hLs := List.take_append_drop s L
    have hRs := List.take_append_drop t R
    have lA : (L.take s).length = s := by simp; omega
    have lB : (L.drop s).length = L.length - s := by simp
    have lC : (R.take t).length = t := by simp; omega
    have lD : (R.drop t).length = R.length - t := by simp
    have sA := srt_take hL s
    have sB := srt_drop hL s
    have sC := srt_take hR t
    have sD := srt_drop hR t
    have QA : ∀ x ∈ L.take s, Q x := fun x hx => hQL x (List.mem_of_mem_take hx)
    have QB : ∀ x ∈ L.drop s, Q x := fun x hx => hQL x (List.mem_of_mem_drop hx)
    have QC : ∀ x ∈ R.take t, Q x := fun x hx => hQR x (List.mem_of_mem_take hx)
    have QD : ∀ x ∈ R.drop t, Q x := fun x hx => hQR x (List.mem_of_mem_drop hx)
    rw [hcut] at hfin
    generalize L.take s = A at *
    generalize L.drop s = B at *
    generalize R.take t = C at *
    generalize R.drop t = F at *
    subst hLs hRs
    simp only [List.length_append] at *
    have hrot : 0 < B.length → 0 < C.length → _ := fun q1 q2 => rotate_eqL b σ (pre ++ A) B C (F ++ post) g N i m E hN (by simp; omega) (by simp; omega) (by omega) (by omega) q1 q2 hb
    have hm1 : 0 < A.length → 0 < C.length → _ := fun q1 q2 => ih (s + t) (by omega) b σ pre A C (B ++ (F ++ post)) N a i mid (by omega) hN (by simp; omega) ha (by omega) (by omega) q1 q2 sA sC QA QC hb
    have hm2 : 0 < B.length → 0 < F.length → _ := fun q1 q2 => ih (B.length + F.length) (by omega) b σ (pre ++ mrg c A C) B F post N mid E e rfl hN (by simp [(mrg_perm A C).length_eq]; omega) (by simp [(mrg_perm A C).length_eq]; omega) (by omega) (by omega) q1 q2 sB sD QB QD hb
    simp only [List.append_assoc] at hrot hm1 hm2 hfin hD
    rw [hD] at hrot
    have n1 : ¬ (0 < B.length ∧ 0 < C.length) → rowE esL D = rowE esL (pre ++ (A ++ (C ++ (B ++ (F ++ post))))) := by
      intro q
      rw [← hD]
      rcases Nat.eq_zero_or_pos B.length with q1 | q1
      · rw [List.length_eq_zero_iff.1 q1]; simp
      · rw [List.length_eq_zero_iff.1 (show C.length = 0 by omega)]; simp
    have n2 : ¬ (0 < A.length ∧ 0 < C.length) → rowE esL (pre ++ (A ++ (C ++ (B ++ (F ++ post))))) = rowE esL (pre ++ (mrg c A C ++ (B ++ (F ++ post)))) := by
      intro q
      rcases Nat.eq_zero_or_pos A.length with q1 | q1
      · rw [List.length_eq_zero_iff.1 q1]; simp
      · rw [List.length_eq_zero_iff.1 (show C.length = 0 by omega)]; simp
    have n3 : ¬ (0 < B.length ∧ 0 < F.length) → rowE esL (pre ++ (mrg c A C ++ (B ++ (F ++ post)))) = fin := by
      intro q
      rw [← hfin]
      rcases Nat.eq_zero_or_pos B.length with q1 | q1
      · rw [List.length_eq_zero_iff.1 q1]; simp
      · rw [List.length_eq_zero_iff.1 (show F.length = 0 by omega)]; simp
    rw [hfin] at hm2
    generalize rowE esL D = X0 at *
    generalize rowE esL (pre ++ (A ++ (C ++ (B ++ (F ++ post))))) = X1 at *
    generalize rowE esL (pre ++ (mrg c A C ++ (B ++ (F ++ post)))) = X2 at *
    clear hfin hcut hDL hDR ih k05 k06 k07 hD hDl
    have hrot' : i < m → m < E → _ := fun q1 q2 => hrot (by omega) (by omega)
    have hm1' : a < i → i < mid → _ := fun q1 q2 => hm1 (by omega) (by omega)
    have hm2' : mid < E → E < e → _ := fun q1 q2 => hm2 (by omega) (by omega)
    clear hrot hm1 hm2
    by_cases c1 : i < m <;> by_cases c2 : m < E <;> by_cases c4 : i < mid <;> by_cases c5 : mid < E <;> (first | (exfalso; omega) | skip)
    all_goals by_cases c3 : a < i <;> by_cases c6 : E < e <;> (first | (exfalso; omega) | skip)
    all_goals
      (try have e1 := n1 (by omega)
       try have e2 := n2 (by omega)
       try have e3 := n3 (by omega)
       clear n1 n2 n3
       try subst e1
       try subst e2
       try subst e3
       clear lA lB lC lD sA sB sC sD QA QB QC QD hL hR hQL hQR hL0 hR0 hsL htR hn hNe hi hmi hEm hm he)
    all_goals
      (simp (maxSteps := 4000000) [List.getElem?_cons_zero, List.getElem?_cons_succ, -Prod.forall, v1, c1, c2, c3, c4, c5, c6, hrot', hm1', hm2']
       try rw [need_of hlow])
end Go.Proofs.Tryz.Ai
end
section
/- Sorting a row of texts: all of it. -/
namespace Go.Proofs.Tryz.Ai
open Go Go.AI Go.Proofs
set_option maxHeartbeats 2000000
set_option linter.unusedVariables false

theorem stable_eqL {g : Nat} {c : ((List UInt8 × List UInt8) × Int × List UInt8) → ((List UInt8 × List UInt8) × Int × List UInt8) → Int} {Q : ((List UInt8 × List UInt8) × Int × List UInt8) → Prop} (h : CmpOkL g c Q) (b : Nat) (σ : List (List AV)) (L : List ((List UInt8 × List UInt8) × Int × List UInt8)) (n : Nat) (hL : ∀ x ∈ L, Q x) (hn : L.length = n) (hN : n ≤ 2 ^ 30) (hb : b < σ.length) :
    ev 128 [.ms 42 4 b 0 n, .int .i64 n, .fn g []] (σ.set b (rowE esL L)) = some (.tup [], σ.set b (rowE esL (isrt c L))) := by
  refine EV_post rfl Tryz.func128 rfl (by simp [Tryz.ntmps128]) (by kernel_rfl) (by kernel_rfl) ?_
  simp (maxSteps := 4000000) [List.getElem?_cons_zero, List.getElem?_cons_succ, -Prod.forall]
  refine Post_loop (I := fun q : Nat => ⟨[(0, .ms 42 4 b 0 n), (1, .int .i64 n), (2, .fn g []), (6, .int .i64 20), (7, .int .i64 ((20 * q : Nat) : Int)), (8, .int .i64 ((20 * q + 20 : Nat) : Int))], [], σ.set b (rowE esL (blk c 20 (L.take (20 * q)) ++ L.drop (20 * q)))⟩)
    (Pr := fun q => 20 * q ≤ n) (μ := fun q => n - 20 * q) (a := 0) (by simp [blk_small, isrt]) (by simp) ?_
  intro q hq
  obtain ⟨a, ha⟩ : ∃ a, 20 * q = a := ⟨_, rfl⟩
  rw [ha] at hq ⊢
  have hpl : (blk c 20 (L.take a)).length = a := by rw [blk_len]; simp; omega
  by_cases hc : a + 20 ≤ n
  · have hX : L.drop a = (L.drop a).take 20 ++ L.drop (a + 20) := by rw [← List.drop_drop, List.take_append_drop]
    have hins := insertion_eqL h b σ (blk c 20 (L.take a)) ((L.drop a).take 20) (L.drop (a + 20)) (fun x hx => hL x (List.mem_of_mem_drop (List.mem_of_mem_take hx))) n a (a + 20) hN (by rw [hpl]; simp; omega) hpl.symm (by simp; omega) hb
    rw [← hX, ← List.append_assoc, ← blk_next (by omega) q ha.symm (by omega)] at hins
    have w1 : IntKind.i64.wrap (((a + 20 : Nat) : Int) + 20) = ((a + 20 + 20 : Nat) : Int) := by rw [wrap64 (by omega)]; omega
    obtain ⟨a2, ha2⟩ : ∃ z, a + 20 = z := ⟨_, rfl⟩
    rw [ha2] at hins w1 hc ⊢
    simp (maxSteps := 4000000) [List.getElem?_cons_zero, List.getElem?_cons_succ, -Prod.forall, hc, hins, w1]
    refine ⟨q + 1, by omega, by omega, by omega, ?_⟩
    rw [show 20 * (q + 1) = a2 by omega]
  · obtain ⟨a2, ha2⟩ : ∃ z, a + 20 = z := ⟨_, rfl⟩
    have hins := insertion_eqL h b σ (blk c 20 (L.take a)) (L.drop a) [] (fun x hx => hL x (List.mem_of_mem_drop hx)) n a n hN (by rw [hpl]; simp; omega) hpl.symm (by simp; omega) hb
    rw [List.append_nil, List.append_nil, ← blk_last (by omega) q ha.symm (by omega) (by omega)] at hins
    rw [ha2] at hc ⊢
    simp (maxSteps := 4000000) [List.getElem?_cons_zero, List.getElem?_cons_succ, -Prod.forall, hc, hins]
    refine Post_loop (I := fun k : Nat => ⟨[(0, .ms 42 4 b 0 n), (1, .int .i64 n), (2, .fn g []), (6, .int .i64 k)], [], σ.set b (rowE esL (blk c k L))⟩)
      (Pr := fun k => 0 < k ∧ k ≤ 2 ^ 31) (μ := fun k => n - k) (a := 20) (by simp) (by simp) ?_
    clear hins hpl hc ha ha2 hq
    rintro k ⟨hk0, hk⟩
    by_cases hkn : k < n
    · have w1 : IntKind.i64.wrap (2 * (k : Int)) = ((2 * k : Nat) : Int) := by rw [wrap64 (by omega)]; omega
      obtain ⟨k2, hk2⟩ : ∃ z, 2 * k = z := ⟨_, rfl⟩
      rw [hk2] at w1
      simp (maxSteps := 4000000) [List.getElem?_cons_zero, List.getElem?_cons_succ, -Prod.forall, hkn, w1]
      refine Post_loop (I := fun q : Nat => ⟨[(0, .ms 42 4 b 0 n), (1, .int .i64 n), (2, .fn g []), (6, .int .i64 k), (7, .int .i64 ((k2 * q : Nat) : Int)), (8, .int .i64 ((k2 * q + k2 : Nat) : Int))], [], σ.set b (rowE esL (blk c k2 (L.take (k2 * q)) ++ blk c k (L.drop (k2 * q))))⟩)
        (Pr := fun q => k2 * q ≤ n) (μ := fun q => n - k2 * q) (a := 0) (by simp [blk_small, isrt]) (by simp) ?_
      intro q hq
      obtain ⟨a, ha⟩ : ∃ a, k2 * q = a := ⟨_, rfl⟩
      have hq1 : k2 * (q + 1) = a + k2 := by rw [Nat.mul_succ, ha]
      rw [ha] at hq ⊢
      have hpl : (blk c k2 (L.take a)).length = a := by rw [blk_len]; simp; omega
      have hw3 : IntKind.i64.wrap ((a : Int) + k) = ((a + k : Nat) : Int) := by rw [wrap64 (by omega)]; omega
      have hS1 := isrt_srt' h.tp ((L.drop a).take k)
      have hQ1 : ∀ x ∈ isrt c ((L.drop a).take k), Q x := fun x hx => hL x (List.mem_of_mem_drop (List.mem_of_mem_take (isrt_mem.1 hx)))
      by_cases hc : a + k2 ≤ n
      · have e1 : blk c k (L.drop a) = isrt c ((L.drop a).take k) ++ (isrt c ((L.drop (a + k)).take k) ++ blk c k (L.drop (a + k2))) := by
          rw [blk_step hk0, List.drop_drop, blk_step hk0 (L.drop (a + k)), List.drop_drop]
          congr 4; omega
        have hQ2 : ∀ x ∈ isrt c ((L.drop (a + k)).take k), Q x := fun x hx => hL x (List.mem_of_mem_drop (List.mem_of_mem_take (isrt_mem.1 hx)))
        have hm := merge_eqL h _ b σ (blk c k2 (L.take a)) (isrt c ((L.drop a).take k)) (isrt c ((L.drop (a + k)).take k)) (blk c k (L.drop (a + k2))) n a (a + k) (a + k2) rfl hN (by rw [hpl, isrt_len, isrt_len, blk_len]; simp; omega) hpl.symm (by rw [isrt_len]; simp; omega) (by rw [isrt_len]; simp; omega) (by rw [isrt_len]; simp; omega) (by rw [isrt_len]; simp; omega) hS1 (isrt_srt' h.tp _) hQ1 hQ2 hb
        rw [← e1, ← isrt_mrg h.tp, ← List.drop_drop, ← List.take_add, ← List.append_assoc, show k + k = k2 by omega, ← blk_next (by omega) q ha.symm (by omega)] at hm
        obtain ⟨m, hmm⟩ : ∃ z, a + k = z := ⟨_, rfl⟩
        obtain ⟨a2, ha2⟩ : ∃ z, a + k2 = z := ⟨_, rfl⟩
        have w4 : IntKind.i64.wrap ((a2 : Int) + k2) = ((a2 + k2 : Nat) : Int) := by rw [wrap64 (by omega)]; omega
        rw [hmm, ha2] at hm
        rw [hmm] at hw3
        rw [ha2] at hc hq1 ⊢
        simp (maxSteps := 4000000) [List.getElem?_cons_zero, List.getElem?_cons_succ, -Prod.forall, hc, hm, hw3, w1, w4]
        refine ⟨q + 1, by omega, by omega, by rw [← hq1]; simp, ?_⟩
        rw [hq1]
      · obtain ⟨a2, ha2⟩ : ∃ z, a + k2 = z := ⟨_, rfl⟩
        rw [ha2] at hc ⊢
        have w5 : IntKind.i64.wrap ((k : Int) * 2) = (k2 : Int) := by rw [wrap64 (by omega)]; omega
        have hfin : blk c k2 L = blk c k2 (L.take a) ++ isrt c (L.drop a) := blk_last (by omega) q ha.symm (by omega) (by omega)
        obtain ⟨m, hmm⟩ : ∃ z, a + k = z := ⟨_, rfl⟩
        rw [hmm] at hw3
        by_cases hmn : m < n
        · have e1 : blk c k (L.drop a) = isrt c ((L.drop a).take k) ++ isrt c (L.drop m) := by
            rw [blk_step hk0, List.drop_drop, hmm, blk_small (L := L.drop m) (by simp; omega)]
          have hQ2 : ∀ x ∈ isrt c (L.drop m), Q x := fun x hx => hL x (List.mem_of_mem_drop (isrt_mem.1 hx))
          have hm := merge_eqL h _ b σ (blk c k2 (L.take a)) (isrt c ((L.drop a).take k)) (isrt c (L.drop m)) [] n a m n rfl hN (by rw [hpl, isrt_len, isrt_len]; simp; omega) hpl.symm (by rw [isrt_len]; simp; omega) (by rw [isrt_len]; simp; omega) (by rw [isrt_len]; simp; omega) (by rw [isrt_len]; simp; omega) hS1 (isrt_srt' h.tp _) hQ1 hQ2 hb
          rw [List.append_nil, List.append_nil, ← e1, ← isrt_mrg h.tp, ← hmm, ← List.drop_drop, List.take_append_drop, hmm, ← hfin] at hm
          simp (maxSteps := 4000000) [List.getElem?_cons_zero, List.getElem?_cons_succ, -Prod.forall, hc, hm, hw3, hmn, w5]
          exact ⟨k2, by omega, by omega, rfl, rfl⟩
        · have e1 : blk c k2 (L.take a) ++ blk c k (L.drop a) = blk c k2 L := by rw [hfin, blk_small (L := L.drop a) (by simp; omega)]
          rw [e1]
          simp (maxSteps := 4000000) [List.getElem?_cons_zero, List.getElem?_cons_succ, -Prod.forall, hc, hw3, hmn, w5]
          exact ⟨k2, by omega, by omega, rfl, rfl⟩
    · rw [blk_small (by omega)]
      simp (maxSteps := 4000000) [List.getElem?_cons_zero, List.getElem?_cons_succ, -Prod.forall, hkn, Tryz.results128]
theorem sortStable_eqL {g : Nat} {c : ((List UInt8 × List UInt8) × Int × List UInt8) → ((List UInt8 × List UInt8) × Int × List UInt8) → Int} {Q : ((List UInt8 × List UInt8) × Int × List UInt8) → Prop} (h : CmpOkL g c Q) (b : Nat) (σ : List (List AV)) (L : List ((List UInt8 × List UInt8) × Int × List UInt8)) (n : Nat) (hL : ∀ x ∈ L, Q x) (hn : L.length = n) (hN : n ≤ 2 ^ 30) (hb : b < σ.length) :
    ev 82 [.ms 42 4 b 0 n, .fn g []] (σ.set b (rowE esL L)) = some (.tup [], σ.set b (rowE esL (isrt c L))) := by
  have h1 := stable_eqL h b σ L n hL hn hN hb
  refine EV_post rfl Tryz.func82 rfl (by simp [Tryz.ntmps82]) (by kernel_rfl) (by kernel_rfl) ?_
  simp (maxSteps := 4000000) [List.getElem?_cons_zero, List.getElem?_cons_succ, -Prod.forall, h1, Tryz.results82]
end Go.Proofs.Tryz.Ai
end
section
/- sumfile: lines in order; Parse. -/
namespace Go.Proofs.Tryz.Ai
open Go Go.AI Go.Proofs Go.B64
set_option maxHeartbeats 8000000
set_option maxRecDepth 4000
set_option linter.unusedVariables false

theorem TO.intC : TO intC := by
  refine ⟨fun a b => ?_, fun a b => ?_, fun a b e => ?_, fun a b => ?_⟩ <;> unfold Ai.intC <;> (repeat' split) <;> omega
/-- the order of lines -/
def lnC (x y : Ln) : Int := orI (modC x.1 y.1) (intC x.2.1 y.2.1)
theorem TP.lnC : TP lnC := by
  have h := (TO.modC.prod TO.intC).tp.comap (fun x : Ln => (x.1, x.2.1))
  exact h
theorem lnC_zero {x y : Ln} : lnC x y = 0 ↔ x.1 = y.1 ∧ x.2.1 = y.2.1 := by
  have h := (TO.modC.prod TO.intC).eq_iff (x.1, x.2.1) (y.1, y.2.1)
  simp only [Prod.mk.injEq] at h
  exact h
def lnM (x : Ln) : Prop := modQ x.1
theorem order_eqL (a b : Ln) (ha : lnM a) (hb : lnM b) (σ) : ev 83 [lnF a, lnF b] σ = some (.int .i64 (lnC a b), σ) := by
  have h1 := Less_eq a.1 b.1 ha hb
  have h2 := Less_eq b.1 a.1 hb ha
  have h3 := cmpInt_eq a.2.1 b.2.1
  have hfl := TO.modC.flip a.1 b.1
  have hsg := TO.modC.sgn a.1 b.1
  have hC : lnC a b = orI (modC a.1 b.1) (intC a.2.1 b.2.1) := rfl
  rw [hC]
  obtain ⟨⟨a1, a2⟩, a3, a4⟩ := a
  obtain ⟨⟨b1, b2⟩, b3, b4⟩ := b
  simp only [lnFx] at h1 h2 h3 hfl hsg ⊢
  obtain ⟨M, hM⟩ : ∃ M, modC (a1, a2) (b1, b2) = M := ⟨_, rfl⟩
  rw [hM] at h1 hfl hsg ⊢
  rw [hfl] at h2
  refine EV_post rfl Tryz.func83 rfl (by simp [Tryz.ntmps83]) (by kernel_rfl) (by kernel_rfl) ?_
  rcases hsg with rfl | rfl | rfl
  · have hA : orI (-1) (intC a3 b3) = -1 := rfl
    have e1 : decide ((-1 : Int) < 0) = true := by decide
    rw [e1] at h1
    simp (maxSteps := 4000000) [List.getElem?_cons_zero, List.getElem?_cons_succ, h1, hA, Tryz.results83]
  · have hA : orI 0 (intC a3 b3) = intC a3 b3 := rfl
    have e1 : decide ((0 : Int) < 0) = false := by decide
    have e2 : decide (-(0 : Int) < 0) = false := by decide
    rw [e1] at h1
    rw [e2] at h2
    simp (maxSteps := 4000000) [List.getElem?_cons_zero, List.getElem?_cons_succ, h1, h2, h3, hA, Tryz.results83]
  · have hA : orI 1 (intC a3 b3) = 1 := rfl
    have e1 : decide ((1 : Int) < 0) = false := by decide
    have e2 : decide (-(1 : Int) < 0) = true := by decide
    rw [e1] at h1
    rw [e2] at h2
    simp (maxSteps := 4000000) [List.getElem?_cons_zero, List.getElem?_cons_succ, h1, h2, hA, Tryz.results83]
theorem cmp_okL : CmpOkL 83 lnC lnM := ⟨TP.lnC, by decide, fun x y hx hy σ => order_eqL x y hx hy σ⟩
theorem row_esL (l : List Ln) : rowE esL l = flat (l.map lnF) := by
  induction l with
  | nil => rfl
  | cons a l ih => unfold rowE at *; rw [List.flatMap_cons, ih, List.map_cons, flat_cons]; rfl
theorem insertion_nilL (g : Nat) (σ : List (List AV)) : ev 159 [.sl .sh [], .int .i64 0, .int .i64 0, .fn g []] σ = some (.tup [], σ) := by
  refine EV_post rfl Tryz.func159 rfl (by simp [Tryz.ntmps159]) (by kernel_rfl) (by kernel_rfl) ?_
  have w : IntKind.i64.wrap 1 = 1 := by decide
  simp (maxSteps := 4000000) [List.getElem?_cons_zero, List.getElem?_cons_succ, w]
  refine Post_loop (I := fun q : Nat => ⟨[(0, .sl .sh []), (1, .int .i64 0), (2, .int .i64 0), (3, .fn g []), (8, .int .i64 1)], [], σ⟩) (Pr := fun q => True) (μ := fun q => q) (a := 0) (by simp) (by simp) ?_
  intro q hq
  simp (maxSteps := 4000000) [List.getElem?_cons_zero, List.getElem?_cons_succ, ]
theorem stable_nilL (g : Nat) (σ : List (List AV)) : ev 128 [.sl .sh [], .int .i64 0, .fn g []] σ = some (.tup [], σ) := by
  have hI := insertion_nilL g
  refine EV_post rfl Tryz.func128 rfl (by simp [Tryz.ntmps128]) (by kernel_rfl) (by kernel_rfl) ?_
  simp (maxSteps := 4000000) [List.getElem?_cons_zero, List.getElem?_cons_succ, ]
  refine Post_loop (I := fun q : Nat => ⟨[(0, .sl .sh []), (1, .int .i64 0), (2, .fn g []), (6, .int .i64 20), (7, .int .i64 0), (8, .int .i64 20)], [], σ⟩) (Pr := fun q => True) (μ := fun q => q) (a := 0) (by simp) (by simp) ?_
  intro q hq
  simp (maxSteps := 4000000) [List.getElem?_cons_zero, List.getElem?_cons_succ, hI]
  refine Post_loop (I := fun q : Nat => ⟨[(0, .sl .sh []), (1, .int .i64 0), (2, .fn g []), (6, .int .i64 20)], [], σ⟩) (Pr := fun q => True) (μ := fun q => q) (a := 0) (by simp) (by simp) ?_
  intro q hq
  simp (maxSteps := 4000000) [List.getElem?_cons_zero, List.getElem?_cons_succ, Tryz.results128]
theorem sortStable_nilL (g : Nat) (σ : List (List AV)) : ev 82 [.sl .sh [], .fn g []] σ = some (.tup [], σ) := by
  have h1 := stable_nilL g
  refine EV_post rfl Tryz.func82 rfl (by simp [Tryz.ntmps82]) (by kernel_rfl) (by kernel_rfl) ?_
  simp (maxSteps := 4000000) [List.getElem?_cons_zero, List.getElem?_cons_succ, h1, Tryz.results82]
theorem els_rowL (l : List Ln) : els2 true 4 4 (flat (l.map lnF)) 0 l.length = some (l.map lnF) := by
  rw [els2_agg, if_pos (by rw [← row_esL, es_lenL]; omega)]
  congr 1
  apply List.ext_getElem?
  intro i
  by_cases hi : i < l.length
  · obtain ⟨x, hx⟩ : ∃ x, l[i]? = some x := ⟨_, List.getElem?_eq_getElem hi⟩
    have := es_getL hx
    rw [List.getElem?_map, List.getElem?_range hi, List.getElem?_map, hx, ← row_esL]
    simp only [Option.map_some, Nat.zero_add, this]; rfl
  · rw [List.getElem?_eq_none (by simpa using Nat.le_of_not_lt hi), List.getElem?_eq_none (by simpa using Nat.le_of_not_lt hi)]
theorem ordered_eq (l : List Ln) (hl : l.length ≤ 2 ^ 30) (hQ : ∀ x ∈ l, lnM x) (σ : List (List AV)) :
    ev 45 [.sl .sh (l.map lnF)] σ = some (.sl (.ex 42 4) ((isrt lnC l).map lnF), σ) := by
  cases l with
  | nil =>
    have hS := sortStable_nilL 83
    refine EV_post rfl Tryz.func45 rfl (by simp [Tryz.ntmps45]) (by kernel_rfl) (by kernel_rfl) ?_
    simp (maxSteps := 4000000) [List.getElem?_cons_zero, List.getElem?_cons_succ, hS, isrt, Tryz.results45]
  | cons x r =>
    have hS := sortStable_eqL cmp_okL σ.length (σ ++ [[]]) (x :: r) (r.length + 1) hQ (by simp) (by simpa using hl) (by simp)
    rw [row_esL, row_esL] at hS
    obtain ⟨L, hL⟩ : ∃ L, isrt lnC (x :: r) = L := ⟨_, rfl⟩
    have hLl : L.length = r.length + 1 := by rw [← hL, isrt_len]; simp
    have hE := els_rowL L
    rw [hL] at hS ⊢
    rw [hLl] at hE
    have hlow : lowL σ.length (L.map lnF) := by simp [lnF]
    have hall : allCells 4 (r.map lnF) := by simp
    simp [lnF] at hS hl
    refine EV_post rfl Tryz.func45 rfl (by simp [Tryz.ntmps45]) (by kernel_rfl) (by kernel_rfl) ?_
    simp (maxSteps := 4000000) [List.getElem?_cons_zero, List.getElem?_cons_succ, hS, hE, hlow, hall, lnF, Tryz.results45]
    repeat (rw [need_of]; rotate_left; (· (try unfold most); omega); simp (maxSteps := 4000000) [List.getElem?_cons_zero, List.getElem?_cons_succ, hS, hE, hlow, hall, lnF, Tryz.results45])
theorem lineR_len (l : List Ln) (s : List UInt8) : (lineR l s).1.length ≤ l.length + 1 := by
  unfold lineR
  split
  · split
    · simp
    · simp
  · simp
/-- all that is read is as the lines say -/
theorem linesP_mem {read : List Ln → List UInt8 → List Ln × Int} {Q : Ln → Prop} {R : List (List UInt8)} (hq : ∀ l s, s ∈ R → (∀ x ∈ l, Q x) → (read l s).2 = 0 → ∀ x ∈ (read l s).1, Q x) : ∀ (r : List (List UInt8)) (l : List Ln) (n : Nat), (∀ s ∈ r, s ∈ R) → (∀ x ∈ l, Q x) → ∀ l', linesP read l n r = .inl l' → ∀ x ∈ l', Q x := by
  intro r
  induction r with
  | nil => intro l n hr h l' e; rw [linesP] at e; injection e with e; subst e; exact h
  | cons x r ih =>
    intro l n hr h l' e
    by_cases h0 : (read l x).2 = 0
    · cases r with
      | nil =>
        by_cases hx : x = []
        · subst hx; rw [linesP_nil] at e; injection e with e; subst e; exact h
        · rw [linesP_end hx h0] at e; cases e
      | cons y r =>
        rw [linesP_next (by simp) h0] at e
        exact ih _ _ (fun s hs => hr s (List.mem_cons_of_mem _ hs)) (hq l x (hr x (List.mem_cons_self ..)) h h0) l' e
    · cases r with
      | nil =>
        by_cases hx : x = []
        · subst hx; rw [linesP_nil] at e; injection e with e; subst e; exact h
        · rw [linesP_bad (.inl hx) h0] at e; cases e
      | cons y r => rw [linesP_bad (.inr (by simp)) h0] at e; cases e
theorem linesP_err {read : List Ln → List UInt8 → List Ln × Int} : ∀ (r : List (List UInt8)) (l : List Ln) (n n' : Nat) (e : Int), linesP read l n r = .inr (n', e) → e ≠ 0 := by
  intro r
  induction r with
  | nil => intro l n n' e h; rw [linesP] at h; cases h
  | cons x r ih =>
    intro l n n' e h
    by_cases h0 : (read l x).2 = 0
    · cases r with
      | nil =>
        by_cases hx : x = []
        · subst hx; rw [linesP_nil] at h; cases h
        · rw [linesP_end hx h0] at h; injection h with h; injection h with _ h; subst h; decide
      | cons y r =>
        rw [linesP_next (by simp) h0] at h
        exact ih _ _ _ _ h
    · cases r with
      | nil =>
        by_cases hx : x = []
        · subst hx; rw [linesP_nil] at h; cases h
        · rw [linesP_bad (.inl hx) h0] at h; injection h with h; injection h with _ h; subst h; exact h0
      | cons y r => rw [linesP_bad (.inr (by simp)) h0] at h; injection h with h; injection h with _ h; subst h; exact h0
theorem linesP_len {read : List Ln → List UInt8 → List Ln × Int} (hlen : ∀ l s, (read l s).1.length ≤ l.length + 1) : ∀ (r : List (List UInt8)) (l : List Ln) (n : Nat) (l' : List Ln), linesP read l n r = .inl l' → l'.length ≤ l.length + r.length := by
  intro r
  induction r with
  | nil => intro l n l' e; rw [linesP] at e; injection e with e; subst e; simp
  | cons x r ih =>
    intro l n l' e
    by_cases h0 : (read l x).2 = 0
    · cases r with
      | nil =>
        by_cases hx : x = []
        · subst hx; rw [linesP_nil] at e; injection e with e; subst e; simp
        · rw [linesP_end hx h0] at e; cases e
      | cons y r =>
        rw [linesP_next (by simp) h0] at e
        have h1 := ih _ _ _ e
        have h2 := hlen l x
        simp only [List.length_cons] at h1 ⊢
        omega
    · cases r with
      | nil =>
        by_cases hx : x = []
        · subst hx; rw [linesP_nil] at e; injection e with e; subst e; simp
        · rw [linesP_bad (.inl hx) h0] at e; cases e
      | cons y r => rw [linesP_bad (.inr (by simp)) h0] at e; cases e
theorem lineR_mem {Q : Ln → Prop} {l : List Ln} {s : List UInt8} (hl : ∀ x ∈ l, Q x) (h : ∀ p v h, splitB 32 s = [p, v, h] → Q (mkLn p v h)) : ∀ x ∈ (lineR l s).1, Q x := by
  unfold lineR
  split
  · rename_i p v w hw
    split
    · simp
    · intro x hx
      rcases List.mem_append.1 hx with hx | hx
      · exact hl x hx
      · simp only [List.mem_singleton] at hx; subst hx; exact h p v w hw
  · simp
theorem mkLn_len {p v h s : List UInt8} (e : splitB 32 s = [p, v, h]) : (mkLn p v h).1.1.length ≤ s.length ∧ (mkLn p v h).1.2.length ≤ s.length ∧ (mkLn p v h).2.2.length ≤ s.length := by
  have h1 : p.length ≤ s.length := splitB_le (c := 32) (by rw [e]; simp)
  have h2 : v.length ≤ s.length := splitB_le (c := 32) (by rw [e]; simp)
  have h3 : h.length ≤ s.length := splitB_le (c := 32) (by rw [e]; simp)
  unfold mkLn
  split
  · exact ⟨h1, by simp; omega, h3⟩
  · exact ⟨h1, h2, h3⟩
theorem checkB_small {p v : List UInt8} (h : checkB p v = 0) : p.length ≤ 100 := by
  unfold checkB at h
  split at h
  · omega
  · rename_i h1
    unfold pathB at h1
    by_cases h2 : 100 < p.length
    · rw [if_pos h2] at h1; exact absurd (by decide) h1
    · omega
def parseP (text : List UInt8) : List Ln × Nat × Int := if 65536 < text.length then ([], 0, 13) else match linesP lineR [] 0 (splitB 10 text) with
  | .inl l => (isrt lnC l, 0, 0)
  | .inr (n, e) => ([], n, e)
theorem parse_low {text : List UInt8} {l : List Ln} (h : linesP lineR [] 0 (splitB 10 text) = .inl l) : ∀ x ∈ l, x.1.1.length ≤ text.length ∧ x.1.2.length ≤ text.length ∧ x.2.2.length ≤ text.length := by
  refine linesP_mem (R := splitB 10 text) (fun l s hs hl _ => lineR_mem hl fun p v w e => ?_) _ [] 0 (fun s hs => hs) (by simp) l h
  have h1 := mkLn_len e
  have h2 : s.length ≤ text.length := splitB_le hs
  omega
theorem Parse_eq (text : List UInt8) (hs : text.length ≤ 2 ^ 27) (σ) : ev 23 [.str text] σ = some (.tup [.sl .sh ((parseP text).1.map lnF), .int .i64 (parseP text).2.1, .int .i64 (parseP text).2.2], σ) := by
  have hL := lines_eq text hs 51 (by decide) [] lineR lineR_len (fun l s σ h1 h2 => line_eq l h1 s h2 σ)
  refine EV_post rfl Tryz.func23 rfl (by simp [Tryz.ntmps23]) (by kernel_rfl) (by kernel_rfl) ?_
  by_cases hc : 65536 < text.length
  · have hp : parseP text = ([], 0, 13) := by unfold parseP; rw [if_pos hc]
    rw [if_pos hc] at hL
    simp (maxSteps := 4000000) [List.getElem?_cons_zero, List.getElem?_cons_succ, hL, hp, Tryz.results23]
  · rw [if_neg hc] at hL
    cases hq : linesP lineR [] 0 (splitB 10 text) with
    | inl l =>
      have hp : parseP text = (isrt lnC l, 0, 0) := by unfold parseP; rw [if_neg hc, hq]
      rw [hq] at hL
      simp only [linesAV] at hL
      have hll := linesP_len lineR_len _ _ _ _ hq
      have hm := splitB_many 10 text
      have hlow := parse_low hq
      have hO := ordered_eq l (by simp at hll; omega) (fun x hx => ⟨by have := (hlow x hx).1; omega, by have := (hlow x hx).2.1; omega⟩)
      simp (maxSteps := 4000000) [List.getElem?_cons_zero, List.getElem?_cons_succ, hL, hO, hp, Tryz.results23]
    | inr r =>
      obtain ⟨n, e⟩ := r
      have he := linesP_err _ _ _ _ _ hq
      have hp : parseP text = ([], n, e) := by unfold parseP; rw [if_neg hc, hq]
      rw [hq] at hL
      simp only [linesAV] at hL
      simp (maxSteps := 4000000) [List.getElem?_cons_zero, List.getElem?_cons_succ, hL, he, hp, Tryz.results23]
end Go.Proofs.Tryz.Ai
end
section
/- mewslaw5.first: yes. -/
namespace Go.Proofs.Tryz.Ai
open Go Go.AI Go.Proofs Go.B64
set_option maxHeartbeats 8000000
set_option maxRecDepth 4000
set_option linter.unusedVariables false

def fsum : List UInt8 := [104, 49, 58, 71, 66, 51, 86, 43, 82, 72, 89, 74, 48, 70, 104, 53, 121, 86, 100, 107, 114, 47, 70, 74, 50, 78, 76, 120, 120, 85, 47, 106, 99, 81, 102, 79, 117, 101, 74, 51, 49, 88, 99, 69, 80, 69, 61]
theorem fsum_ok : sumB fsum = true := by decide +kernel
theorem fcheck : checkB [97, 46, 98, 47, 99] [118, 49, 46, 48, 46, 48] = 0 := by decide +kernel
def ft1 : List UInt8 := [97, 46, 98, 47, 99, 32, 118, 49, 46, 48, 46, 48, 47, 103, 111, 46, 109, 111, 100, 32, 104, 49, 58, 71, 66, 51, 86, 43, 82, 72, 89, 74, 48, 70, 104, 53, 121, 86, 100, 107, 114, 47, 70, 74, 50, 78, 76, 120, 120, 85, 47, 106, 99, 81, 102, 79, 117, 101, 74, 51, 49, 88, 99, 69, 80, 69, 61, 10]
def ft2 : List UInt8 := [97, 46, 98, 47, 99, 32, 32, 118, 49, 46, 48, 46, 48, 32, 104, 49, 58, 71, 66, 51, 86, 43, 82, 72, 89, 74, 48, 70, 104, 53, 121, 86, 100, 107, 114, 47, 70, 74, 50, 78, 76, 120, 120, 85, 47, 106, 99, 81, 102, 79, 117, 101, 74, 51, 49, 88, 99, 69, 80, 69, 61, 10]
theorem fp1 : parseP ft1 = ([(([97, 46, 98, 47, 99], [118, 49, 46, 48, 46, 48]), 1, fsum)], 0, 0) := by
  have h1 : splitB 10 ft1 = [ft1.take 67, []] := by decide +kernel
  have h2 : splitB 32 (ft1.take 67) = [[97, 46, 98, 47, 99], [118, 49, 46, 48, 46, 48, 47, 103, 111, 46, 109, 111, 100], fsum] := by decide +kernel
  have h3 : mkLn [97, 46, 98, 47, 99] [118, 49, 46, 48, 46, 48, 47, 103, 111, 46, 109, 111, 100] fsum = (([97, 46, 98, 47, 99], [118, 49, 46, 48, 46, 48]), 1, fsum) := by
    unfold mkLn; rw [if_pos (by decide)]; rfl
  have h4 : lineR [] (ft1.take 67) = ([(([97, 46, 98, 47, 99], [118, 49, 46, 48, 46, 48]), 1, fsum)], 0) := by
    unfold lineR
    rw [h2]
    simp only
    rw [if_neg (by simp [fsum]), h3]
    have : checkL [] (([97, 46, 98, 47, 99], [118, 49, 46, 48, 46, 48]), 1, fsum) = 0 := by
      unfold checkL
      simp only [fcheck, fsum_ok]
      simp
    rw [this]; rfl
  unfold parseP
  rw [if_neg (by decide), h1, linesP_next (by simp) (by rw [h4]), h4, linesP_nil]
  rfl
theorem fp2 : parseP ft2 = ([], 1, 11) := by
  have h1 : splitB 10 ft2 = [ft2.take 61, []] := by decide +kernel
  have h2 : (splitB 32 (ft2.take 61)).length ≠ 3 := by decide +kernel
  unfold parseP
  rw [if_neg (by decide), h1, linesP_bad (.inr (by simp)) (by rw [lineR_not h2]; decide), lineR_not h2]
theorem fg1 : globB [97, 63, 99] [97, 98, 99] = true := by
  rw [globB_iff, MG_one (by decide)]
  refine ⟨97, _, rfl, .inl rfl, ?_⟩
  rw [MG_one (by decide)]
  refine ⟨98, _, rfl, .inr ⟨rfl, by decide⟩, ?_⟩
  rw [MG_one (by decide)]
  exact ⟨99, _, rfl, .inl rfl, rfl⟩
theorem fg2 : globB [42] [97, 47, 98] = false := by
  rw [Bool.eq_false_iff, Ne, globB_iff, MG_star]
  rintro ⟨x, t, h, hx, ht⟩
  cases ht
  rw [List.append_nil] at h
  subst h
  exact hx (by decide)
theorem first_eq (σ) : ev 11 [] σ = some (.bool true, σ) := by
  have h1 := Parse_eq ft1 (by decide)
  have h2 := Parse_eq ft2 (by decide)
  have h3 := ValidSum_eq fsum (by decide)
  have h4 := ValidSum_eq [104, 49, 58, 97, 98, 99] (by decide)
  have h5 : sumB [104, 49, 58, 97, 98, 99] = false := by decide +kernel
  have h6 := Glob_eq [97, 63, 99] [97, 98, 99] (by decide) (by decide)
  have h7 := Glob_eq [42] [97, 47, 98] (by decide) (by decide)
  have h8 := fun e => Num_eq e
  rw [fp1] at h1
  rw [fp2] at h2
  rw [fsum_ok] at h3
  rw [h5] at h4
  rw [fg1] at h6
  rw [fg2] at h7
  simp only [List.map_cons, List.map_nil, lnFx] at h1 h2
  unfold ft1 fsum at h1
  unfold ft2 at h2
  unfold fsum at h3
  refine EV_post rfl Tryz.func11 rfl (by simp [Tryz.ntmps11]) (by kernel_rfl) (by kernel_rfl) ?_
  simp (maxSteps := 4000000) [List.getElem?_cons_zero, List.getElem?_cons_succ, h1, h2, h3, h4, h6, h7, h8, Tryz.results11]
end Go.Proofs.Tryz.Ai
end
section
/- mewsref's small functions. -/
namespace Go.Proofs.Tryz.Ai
open Go Go.AI Go.Proofs
set_option maxHeartbeats 2000000
set_option linter.unusedVariables false

theorem SameTexts_eq (a b : List (List UInt8)) (ha : a.length ≤ 2 ^ 31) (σ : List (List AV)) : ev 34 [.sl .sh (a.map .str), .sl .sh (b.map .str)] σ = some (.bool (decide (a = b)), σ) := by
  refine EV_post rfl Tryz.func34 rfl (by simp [Tryz.ntmps34]) (by kernel_rfl) (by kernel_rfl) ?_
  by_cases hl : a.length = b.length
  · simp (maxSteps := 4000000) [List.getElem?_cons_zero, List.getElem?_cons_succ, hl]
    refine Post_loop (I := fun i : Nat => ⟨[(0, .sl .sh (a.map .str)), (1, .sl .sh (b.map .str)), (5, .int .i64 i)], [], σ⟩) (Pr := fun i => i ≤ a.length ∧ a.take i = b.take i) (μ := fun i => a.length - i) (a := 0) (by simp) (by simp) ?_
    rintro i ⟨i1, i2⟩
    by_cases hc : i < a.length
    · obtain ⟨x, hx⟩ : ∃ z, a[i]? = some z := ⟨_, List.getElem?_eq_getElem hc⟩
      obtain ⟨y, hy⟩ : ∃ z, b[i]? = some z := ⟨_, List.getElem?_eq_getElem (by omega)⟩
      have hcb : i < b.length := by omega
      have w1 : IntKind.i64.wrap ((i : Int) + 1) = (i : Int) + 1 := wrap64 (by omega)
      by_cases hxy : x = y
      · subst hxy
        simp (maxSteps := 4000000) [List.getElem?_cons_zero, List.getElem?_cons_succ, -getElem?_pos, hcb, hl, hx, hy, w1]
        exact ⟨i + 1, ⟨by omega, by rw [List.take_add_one, List.take_add_one, hx, hy, i2]⟩, by omega, by simp⟩
      · have hab : ¬ a = b := by
          intro e
          subst e
          rw [hx] at hy
          exact hxy (by simpa using hy)
        have hxy' : (x == y) = false := by simpa using hxy
        simp (maxSteps := 4000000) [List.getElem?_cons_zero, List.getElem?_cons_succ, -getElem?_pos, hcb, hl, hx, hy, hxy, hxy', hab, Tryz.results34]
    · have hab : a = b := by
        rw [List.take_of_length_le (by omega), List.take_of_length_le (by omega)] at i2
        exact i2
      have hcb : ¬ i < b.length := by omega
      subst hab
      simp (maxSteps := 4000000) [List.getElem?_cons_zero, List.getElem?_cons_succ, hcb, Tryz.results34]
  · have hab : ¬ a = b := fun e => hl (by rw [e])
    simp (maxSteps := 4000000) [List.getElem?_cons_zero, List.getElem?_cons_succ, hl, hab, Tryz.results34]
theorem suffix_drop {a b : List UInt8} (h : b.length ≤ a.length) : (a.drop (a.length - b.length) == b) = decide (b <:+ a) := by
  rw [Bool.eq_iff_iff, beq_iff_eq, decide_eq_true_iff, List.suffix_iff_eq_drop]
  exact ⟨fun h => h.symm, fun h => h.symm⟩
theorem Begins_eq (a b : List UInt8) (ha : a.length ≤ 2 ^ 31) (hb : b.length ≤ 2 ^ 31) (σ) : ev 30 [.str a, .str b] σ = some (.bool (b.isPrefixOf a), σ) := by
  refine EV_post rfl Tryz.func30 rfl (by simp [Tryz.ntmps30]) (by kernel_rfl) (by kernel_rfl) ?_
  by_cases hc : b.length ≤ a.length
  · have c1 : (b.length : Int) ≤ a.length := by omega
    have e : (a.take b.length == b) = b.isPrefixOf a := by
      rw [Bool.eq_iff_iff, List.isPrefixOf_iff_prefix, beq_iff_eq, List.prefix_iff_eq_take]
      exact ⟨fun h => h.symm, fun h => h.symm⟩
    simp (maxSteps := 4000000) [List.getElem?_cons_zero, List.getElem?_cons_succ, c1, hc, e, Tryz.results30]
  · have c1 : ¬ (b.length : Int) ≤ a.length := by omega
    have e : b.isPrefixOf a = false := by
      rw [Bool.eq_false_iff]
      intro h
      rw [List.isPrefixOf_iff_prefix] at h
      exact hc h.length_le
    simp (maxSteps := 4000000) [List.getElem?_cons_zero, List.getElem?_cons_succ, c1, hc, e, Tryz.results30]
end Go.Proofs.Tryz.Ai
end
section
/- sumfile.Match. -/
namespace Go.Proofs.Tryz.Ai
open Go Go.AI Go.Proofs Go.B64
set_option maxHeartbeats 8000000
set_option maxRecDepth 4000
set_option linter.unusedVariables false

theorem join_joinB (c : UInt8) : ∀ l : List (List UInt8), Lib.join l [c] = joinB c l := by
  intro l
  induction l with
  | nil => rfl
  | cons x r ih =>
    cases r with
    | nil => rw [Lib.join_one]; rfl
    | cons y r =>
      rw [joinB_cons c x (by simp), ← ih, Lib.join_cons, Lib.join_cons]
      simp [Lib.joinTail]
theorem joinB_take (c : UInt8) : ∀ (l : List (List UInt8)) (n : Nat), (joinB c (l.take n)).length ≤ (joinB c l).length := by
  intro l
  induction l with
  | nil => intro n; simp
  | cons x r ih =>
    intro n
    cases n with
    | zero => simp [joinB]
    | succ n =>
      cases r with
      | nil => simp
      | cons y r =>
        cases n with
        | zero => rw [joinB_cons c x (by simp)]; simp [joinB]
        | succ n =>
          have := ih (n + 1)
          rw [List.take_succ_cons, joinB_cons c x (by simp), joinB_cons c x (by simp)]
          simp only [List.length_append, List.length_cons]
          omega
theorem Join1_eq (l : List (List UInt8)) (c : UInt8) (hl : l.length ≤ 2 ^ 30) (hj : (joinB c l).length ≤ 2 ^ 30) (σ) : ev 69 [.sl .sh (l.map .str), .str [c]] σ = some (.str (joinB c l), σ) := by
  rw [ev_Join]
  simp only [joinT, strsOf_map, bnd_some]
  rw [need_of ⟨by omega, by rw [join_joinB]; omega⟩, join_joinB]
noncomputable def matchP (E : List (List UInt8)) (p : List UInt8) : Bool := decide ((splitB 47 p).length ≤ E.length) && globB p (joinB 47 (E.take (splitB 47 p).length))
theorem Match1_eq (E : List (List UInt8)) (hE : E.length ≤ 2 ^ 30) (hj : (joinB 47 E).length ≤ 2 ^ 30) (p : List UInt8) (hp : p.length ≤ 2 ^ 29) (b : Nat) (sh : Option (TypeId × Nat)) (o : Own) (σ : List (List AV)) (hb : σ[b]? = some [.sl o (E.map .str)]) :
    ev 67 [.str p, .gp b 0 sh] σ = some (.bool (matchP E p), σ) := by
  have hl := splitB_len 47 p
  have hm := splitB_many 47 p
  have hcn : ∀ σ, ev 68 [.str p, .str [47]] σ = some (.int .i64 ((Lib.countByte p 47 : Nat) : Int), σ) := fun σ => by rw [ev_count]; rfl
  obtain ⟨n, hn⟩ : ∃ n, Lib.countByte p 47 = n := ⟨_, rfl⟩
  rw [hn] at hl hcn
  have hM : matchP E p = (decide (n + 1 ≤ E.length) && globB p (joinB 47 (E.take (n + 1)))) := by unfold matchP; rw [hl]
  have w1 : IntKind.i64.wrap ((n : Int) + 1) = ((n + 1 : Nat) : Int) := by rw [wrap64 (by omega)]; omega
  have hJ := Join1_eq (E.take (n + 1)) 47 (by simp; omega) (Nat.le_trans (joinB_take 47 E (n + 1)) hj)
  have hG := Glob_eq p (joinB 47 (E.take (n + 1))) (by omega) (Nat.le_trans (joinB_take 47 E (n + 1)) hj)
  obtain ⟨J, hJJ⟩ : ∃ J, joinB 47 (E.take (n + 1)) = J := ⟨_, rfl⟩
  rw [hJJ] at hJ hG hM
  obtain ⟨k, hk⟩ : ∃ k, n + 1 = k := ⟨_, rfl⟩
  rw [hk] at w1 hJ hM
  rw [hM]
  rw [List.map_take] at hJ
  obtain ⟨L, hL⟩ : ∃ L : List AV, E.map .str = L := ⟨_, rfl⟩
  have hLl : L.length = E.length := by rw [← hL]; simp
  have hall : allCells 1 L := by rw [← hL]; simp
  rw [hL] at hJ hb
  rw [← hLl]
  refine EV_post rfl Tryz.func67 rfl (by simp [Tryz.ntmps67]) (by kernel_rfl) (by kernel_rfl) ?_
  by_cases hc : k ≤ L.length
  · simp (maxSteps := 4000000) [List.getElem?_cons_zero, List.getElem?_cons_succ, -getElem?_pos, hcn, hb, w1, hc, hall, hJ, hG, Tryz.results67]
  · simp (maxSteps := 4000000) [List.getElem?_cons_zero, List.getElem?_cons_succ, -getElem?_pos, hcn, hb, w1, hc, Tryz.results67]
theorem Match_eq (l : List (List UInt8)) (hl : l.length ≤ 2 ^ 29) (hll : ∀ p ∈ l, p.length ≤ 2 ^ 29) (path : List UInt8) (hp : path.length ≤ 2 ^ 29) (σ) :
    ev 29 [.sl .sh (l.map .str), .str path] σ = some (.bool (l.any (matchP (splitB 47 path))), σ) := by
  have hS := Split1_eq path (by omega) 47
  have hm := splitB_many 47 path
  have hj := join_split 47 path
  obtain ⟨E, hE⟩ : ∃ E, splitB 47 path = E := ⟨_, rfl⟩
  rw [hE] at hS hm hj ⊢
  have h1 := fun σ b sh o hb => ContainsFuncT_eq l (by omega) 67 (by decide) [.gp b 0 sh] (by simp [args, arg, dem]) (matchP E) σ (fun k hk => Match1_eq E (by omega) (by rw [hj]; omega) k (hll k hk) b sh o σ hb)
  have h2 : ∀ (σ : List (List AV)) (o : Own), ev 66 [.sl .sh (l.map .str), .fn 67 [.gp σ.length 0 (some (56, 1))]] (σ ++ [[.sl o (E.map .str)]]) = some (.bool (l.any (matchP E)), σ ++ [[.sl o (E.map .str)]]) := fun σ o => h1 _ _ _ o (by simp)
  clear h1
  have hlow : ∀ n, lowL n (E.map AV.str) := fun n => by simp
  refine EV_post rfl Tryz.func29 rfl (by simp [Tryz.ntmps29]) (by kernel_rfl) (by kernel_rfl) ?_
  simp (maxSteps := 4000000) [List.getElem?_cons_zero, List.getElem?_cons_succ, hS, h2, hlow, Tryz.results29]
end Go.Proofs.Tryz.Ai
end
