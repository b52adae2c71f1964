/- Part 7 of a proof: a Go function is evaluated on abstract values (texts S9 .. FMatches); no conditions beyond those of each theorem. -/
import Derived.Test.YtoofpdaplnjmdaaGreatDoorAi6
import Derived.Lib.IndexMore
import Derived.Test.YtoofpdaplnjmdaaGreatDoorCards
import Derived.Test.YtoofpdaplnjmdaaGreatDoorTie
import Derived.WalkKit
import Derived.ProofKit
import Derived.OpenShut
import Derived.Below
import Derived.ChangeOld
import Derived.Deep.DeepHandedRow
import Derived.Lib.LaidTab
import Derived.Lay
import Derived.MakeChecks
set_option linter.all false
set_option linter.unusedVariables false
set_option linter.unusedSimpArgs false
set_option linter.unnecessarySimpa false
section
/- The document's Glob: a table. -/
namespace Go.Proofs.Tryz.Ai
open Go Go.AI Go.Proofs Go.B64
set_option maxHeartbeats 8000000
set_option maxRecDepth 4000
set_option linter.unusedVariables false

def rowF (n : Nat) (f : Nat → Bool) : List AV := (List.range n).map fun j => .bool (f j)
theorem rowF_len (n : Nat) (f : Nat → Bool) : (rowF n f).length = n := by simp [rowF]
theorem rowF_get {n : Nat} {f : Nat → Bool} {j : Nat} (h : j < n) : (rowF n f)[j]? = some (.bool (f j)) := by
  unfold rowF
  rw [List.getElem?_map, List.getElem?_range h]; rfl
theorem rowF_set {n : Nat} {f g : Nat → Bool} {i : Nat} (h : i < n) (hg : ∀ j, j < n → j ≠ i → g j = f j) : (rowF n f).take i ++ .bool (g i) :: (rowF n f).drop (i + 1) = rowF n g := by
  apply List.ext_getElem?
  intro j
  have hl := rowF_len n f
  by_cases hj : j < n
  · rw [rowF_get hj]
    rcases Nat.lt_trichotomy j i with h1 | h1 | h1
    · rw [List.getElem?_append_left (by simp; omega), List.getElem?_take, if_pos h1, rowF_get hj, hg j hj (by omega)]
    · subst h1
      rw [List.getElem?_append_right (by simp; omega)]
      simp [Nat.min_eq_left (show j ≤ (rowF n f).length by omega)]
    · rw [List.getElem?_append_right (by simp; omega)]
      have e : j - ((rowF n f).take i).length = (j - i - 1) + 1 := by simp; omega
      rw [e, List.getElem?_cons_succ, List.getElem?_drop, show i + 1 + (j - i - 1) = j by omega, rowF_get hj, hg j hj (by omega)]
  · rw [List.getElem?_eq_none (by simp; omega), List.getElem?_eq_none (by rw [rowF_len]; omega)]
theorem rowF_ext {n : Nat} {f g : Nat → Bool} (h : ∀ j, j < n → f j = g j) : rowF n f = rowF n g := by
  unfold rowF
  apply List.map_congr_left
  intro j hj
  rw [h j (List.mem_range.1 hj)]
theorem rowF_rep (n : Nat) : List.replicate n (AV.bool false) = rowF n fun _ => false := by
  unfold rowF
  apply List.ext_getElem?
  intro j
  by_cases hj : j < n
  · rw [List.getElem?_replicate, if_pos hj, List.getElem?_map, List.getElem?_range hj]; rfl
  · rw [List.getElem?_eq_none (by simp; omega), List.getElem?_eq_none (by simp; omega)]
/-- one more byte of a pattern, of a text -/
theorem globB_star {p s : List UInt8} {d : UInt8} : globB (p ++ [42]) (s ++ [d]) = (globB p (s ++ [d]) || (globB (p ++ [42]) s && decide (d ≠ 47))) := by
  rw [Bool.eq_iff_iff, Bool.or_eq_true, Bool.and_eq_true, decide_eq_true_iff, globB_iff, globB_iff, globB_iff, MG_snoc_star]
theorem globB_one {p s : List UInt8} {c d : UInt8} (hc : c ≠ 42) (h63 : c ≠ 63) : globB (p ++ [c]) (s ++ [d]) = (globB p s && decide (d = c)) := by
  rw [Bool.eq_iff_iff, Bool.and_eq_true, decide_eq_true_iff, globB_iff, globB_iff, MG_snoc_one hc]
  constructor
  · rintro ⟨h, h2⟩; exact ⟨h, (h2.resolve_right fun h => h63 h.1).symm⟩
  · rintro ⟨h, rfl⟩; exact ⟨h, .inl rfl⟩
theorem globB_any {p s : List UInt8} {d : UInt8} : globB (p ++ [63]) (s ++ [d]) = (globB p s && decide (d ≠ 47)) := by
  rw [Bool.eq_iff_iff, Bool.and_eq_true, decide_eq_true_iff, globB_iff, globB_iff, MG_snoc_one (by decide)]
  constructor
  · rintro ⟨h, h2⟩
    refine ⟨h, ?_⟩
    rcases h2 with h2 | h2
    · rw [← h2]; decide
    · exact h2.2
  · rintro ⟨h, h2⟩; exact ⟨h, .inr ⟨rfl, h2⟩⟩
theorem globB_nil_s {s : List UInt8} (h : s ≠ []) : globB [] s = false := by
  rw [Bool.eq_false_iff, Ne, globB_iff]
  exact h
theorem globB_stars {p : List UInt8} {i : Nat} (h : ∀ c ∈ p.take i, c = 42) (he : i = p.length ∨ ∃ c, p[i]? = some c ∧ c ≠ 42) {j : Nat} (hj : j ≤ p.length) : globB (p.take j) [] = decide (j ≤ i) := by
  rw [Bool.eq_iff_iff, globB_iff, MG_empty, decide_eq_true_iff]
  constructor
  · intro h2
    rcases he with rfl | ⟨c, hc, h42⟩
    · exact hj
    · rcases Nat.lt_or_ge i j with h3 | h3
      · exact absurd (h2 c (List.mem_of_getElem? (i := i) (by rw [List.getElem?_take, if_pos h3]; exact hc))) h42
      · exact h3
  · intro h2 c hc
    refine h c ?_
    obtain ⟨t, ht⟩ := List.mem_iff_getElem?.1 hc
    rw [List.getElem?_take] at ht
    split at ht
    · exact List.mem_of_getElem? (i := t) (by rw [List.getElem?_take, if_pos (by omega)]; exact ht)
    · cases ht
/-- where a box is kept -/
structure KBox (σ S : List (List AV)) (b : Nat) (row : List AV) : Prop where
  get : S[b]? = some row
  tk : S.take σ.length = σ
  le : σ.length ≤ b
theorem KBox.lt {σ S : List (List AV)} {b : Nat} {r : List AV} (h : KBox σ S b r) : b < S.length := (List.getElem?_eq_some_iff.1 h.get).1
theorem KBox.set {σ S : List (List AV)} {b : Nat} {r : List AV} (h : KBox σ S b r) (r' : List AV) : KBox σ (S.set b r') b r' :=
  ⟨by rw [List.getElem?_set_self h.lt], by rw [List.take_set_of_le h.le]; exact h.tk, h.le⟩
theorem KBox.set2 {σ S : List (List AV)} {b c : Nat} {r r2 : List AV} (h : KBox σ S b r) (h2 : KBox σ S c r2) (hbc : b ≠ c) (r' : List AV) : KBox σ (S.set c r') b r :=
  ⟨by rw [List.getElem?_set_ne (Ne.symm hbc)]; exact h.get, by rw [List.take_set_of_le h2.le]; exact h.tk, h.le⟩
theorem KBox.app {σ S : List (List AV)} {b : Nat} {r : List AV} (h : KBox σ S b r) (l : List (List AV)) : KBox σ (S ++ l) b r :=
  ⟨by rw [List.getElem?_append_left h.lt]; exact h.get, by rw [List.take_append_of_le_length (by have := h.le; have := h.lt; omega)]; exact h.tk, h.le⟩
theorem KBox.new {σ S : List (List AV)} {b : Nat} {r : List AV} (h : KBox σ S b r) (r' : List AV) : KBox σ (S ++ [r']) S.length r' :=
  ⟨by rw [List.getElem?_append_right (Nat.le_refl _)]; simp, by rw [List.take_append_of_le_length (by have := h.le; have := h.lt; omega)]; exact h.tk, by have := h.le; have := h.lt; omega⟩
theorem KBox.low {σ S : List (List AV)} {b : Nat} {r : List AV} (h : KBox σ S b r) : lowS σ S := fun k hk => .inl (by
  have := congrArg (fun l : List (List AV) => l[k]?) h.tk
  simp only [List.getElem?_take, if_pos hk] at this
  exact this)
/-- the rows of the table -/
noncomputable def gRow (P S : List UInt8) (k : Nat) : List AV := rowF (P.length + 1) fun j => globB (P.take j) (S.take k)
noncomputable def hRow (P S : List UInt8) (k i : Nat) : List AV := rowF (P.length + 1) fun j => decide (j ≤ i) && globB (P.take j) (S.take (k + 1))
theorem hRow_step {P S : List UInt8} {k i : Nat} (hi : i < P.length) : (hRow P S k i).take (i + 1) ++ .bool (globB (P.take (i + 1)) (S.take (k + 1))) :: (hRow P S k i).drop (i + 2) = hRow P S k (i + 1) := by
  have := rowF_set (n := P.length + 1) (f := fun j => decide (j ≤ i) && globB (P.take j) (S.take (k + 1))) (g := fun j => decide (j ≤ i + 1) && globB (P.take j) (S.take (k + 1))) (i := i + 1) (by omega) (fun j _ hj => by
    have : decide (j ≤ i + 1) = decide (j ≤ i) := by rw [decide_eq_decide]; omega
    rw [this])
  simp only [Nat.le_refl, decide_true, Bool.true_and] at this
  exact this
theorem hRow_first {P S : List UInt8} {k : Nat} (hk : k < S.length) : List.replicate (P.length + 1) (AV.bool false) = hRow P S k 0 := by
  rw [rowF_rep]
  refine rowF_ext fun j hj => ?_
  by_cases h0 : j = 0
  · subst h0
    rw [List.take_zero, globB_nil_s (by intro e; have := congrArg List.length e; rw [List.length_take, List.length_nil] at this; omega)]; rfl
  · have : decide (j ≤ 0) = false := by simp; omega
    rw [this]; rfl
theorem hRow_last {P S : List UInt8} {k : Nat} : hRow P S k P.length = gRow P S (k + 1) := by
  refine rowF_ext fun j hj => ?_
  have : decide (j ≤ P.length) = true := by simp; omega
  rw [this, Bool.true_and]
def sRow (n i : Nat) : List AV := rowF n fun j => decide (j ≤ i)
theorem sRow_step {n i : Nat} (h : i + 1 < n) : (sRow n i).take (i + 1) ++ .bool true :: (sRow n i).drop (i + 2) = sRow n (i + 1) := by
  have := rowF_set (n := n) (f := fun j => decide (j ≤ i)) (g := fun j => decide (j ≤ i + 1)) (i := i + 1) h (fun j _ hj => by rw [decide_eq_decide]; omega)
  simp only [Nat.le_refl, decide_true] at this
  exact this
theorem sRow_first {n : Nat} (h : 0 < n) : .bool true :: (List.replicate n (AV.bool false)).drop 1 = sRow n 0 := by
  have := rowF_set (n := n) (f := fun _ => false) (g := fun j => decide (j ≤ 0)) (i := 0) h (fun j _ hj => by simp; omega)
  rw [← rowF_rep] at this
  show _ = rowF n fun j => decide (j ≤ 0)
  rw [← this]; simp
theorem sRow_g {P S : List UInt8} {i : Nat} (h : ∀ c ∈ P.take i, c = 42) (he : i = P.length ∨ ∃ c, P[i]? = some c ∧ c ≠ 42) : sRow (P.length + 1) i = gRow P S 0 := by
  refine rowF_ext fun j hj => ?_
  rw [List.take_zero, globB_stars h he (by omega)]
theorem rGlob_eq (P S : List UInt8) (hP : P.length ≤ 2 ^ 30) (hS : S.length ≤ 2 ^ 30) (σ : List (List AV)) : ev 35 [.str P, .str S] σ = some (.bool (globB P S), σ) := by
  have w0 : IntKind.i64.wrap ((P.length : Int) + 1) = ((P.length + 1 : Nat) : Int) := by rw [wrap64 (by omega)]; omega
  have q0 : P.length + 1 ≤ most := by unfold most; omega
  obtain ⟨m, hm⟩ : ∃ m, P.length + 1 = m := ⟨_, rfl⟩
  rw [hm] at w0 q0
  have hm0 : 0 < m := by omega
  have hfl : flat (List.replicate m (AV.bool false)) = List.replicate m (AV.bool false) := by
    clear hm w0 q0 hm0
    induction m with
    | zero => rfl
    | succ m ih => rw [List.replicate_succ, flat_cons, ih]; rfl
  have hf0 := sRow_first hm0
  rw [List.drop_one] at hf0
  have hsl : ∀ i, (sRow m i).length = m := fun i => rowF_len _ _
  have hgl : ∀ k, (gRow P S k).length = m := fun k => by rw [← hm]; exact rowF_len _ _
  have hhl : ∀ k i, (hRow P S k i).length = m := fun k i => by rw [← hm]; exact rowF_len _ _
  refine EV_post rfl Tryz.func35 rfl (by simp [Tryz.ntmps35]) (by kernel_rfl) (by kernel_rfl) ?_
  have hm1 : 1 ≤ m := hm0
  simp (maxSteps := 4000000) [List.getElem?_cons_zero, List.getElem?_cons_succ, w0, q0, hm0, hm1, hfl, hf0]
  refine Post_loop (I := fun i : Nat => ⟨[(0, .str P), (1, .str S), (5, .ms 4 1 σ.length 0 m), (6, .int .i64 i)], [], σ ++ [sRow m i]⟩) (Pr := fun i => i ≤ P.length ∧ ∀ c ∈ P.take i, c = 42) (μ := fun i => P.length - i) (a := 0) (by simp; simpa using hf0) (by simp) ?_
  rintro i ⟨hi, hst⟩
  have w1 : ∀ n : Nat, n ≤ 2 ^ 30 → IntKind.i64.wrap ((n : Int) + 1) = ((n + 1 : Nat) : Int) := fun n h => by rw [wrap64 (by omega)]; omega
  have w1i := w1 i (by omega)
  have other : (i = P.length ∨ ∃ c, P[i]? = some c ∧ c ≠ 42) → KBox σ (σ ++ [sRow m i]) σ.length (gRow P S 0) := fun h => ⟨by rw [← sRow_g hst h, hm]; simp, by simp, Nat.le_refl _⟩
  by_cases hc : i < P.length
  · obtain ⟨c, hx⟩ : ∃ c, P[i]? = some c := ⟨_, List.getElem?_eq_getElem hc⟩
    by_cases h42 : c = 42
    · subst h42
      have him : i + 1 + 1 ≤ m := by omega
      have him' : i + 1 < m := by omega
      have hss := sRow_step (n := m) (i := i) him'
      simp (maxSteps := 4000000) [List.getElem?_cons_zero, List.getElem?_cons_succ, -getElem?_pos, hc, hx, w1i, him, him', hsl, hss]
      exact ⟨i + 1, ⟨by omega, fun c hc' => by
        rw [List.take_add_one, hx] at hc'
        rcases List.mem_append.1 hc' with h | h
        · exact hst c h
        · simpa using h⟩, by omega, by simp⟩
    · have hB := other (.inr ⟨c, hx, h42⟩)
      obtain ⟨X, hX⟩ : ∃ X, σ ++ [sRow m i] = X := ⟨_, rfl⟩
      rw [hX] at hB ⊢
      simp (maxSteps := 4000000) [List.getElem?_cons_zero, List.getElem?_cons_succ, -getElem?_pos, -Prod.exists, hc, hx, h42]
      refine Post_loop (I := fun q : List (List AV) × Nat × Nat => ⟨[(0, .str P), (1, .str S), (5, .ms 4 1 q.2.1 0 m), (7, .int .i64 q.2.2)], [], q.1⟩) (Pr := fun q => q.2.2 ≤ S.length ∧ KBox σ q.1 q.2.1 (gRow P S q.2.2)) (μ := fun q => S.length - q.2.2) (a := (X, σ.length, 0)) (by simp) ⟨by simp, hB⟩ ?_
      rintro ⟨Y, b, k⟩ ⟨hk, hY⟩
      simp only at hk hY ⊢
      have w1k := w1 k (by omega)
      by_cases hkc : k < S.length
      · obtain ⟨d, hd⟩ : ∃ d, S[k]? = some d := ⟨_, List.getElem?_eq_getElem hkc⟩
        have hfr := hRow_first (P := P) hkc
        rw [hm] at hfr
        have hN := hY.new (hRow P S k 0)
        have hO := hY.app [hRow P S k 0]
        have hbY := hY.lt
        simp (maxSteps := 4000000) [List.getElem?_cons_zero, List.getElem?_cons_succ, -getElem?_pos, -Prod.exists, hkc, w0, q0, hm1, hfl.trans hfr]
        refine Post_loop (I := fun q : List (List AV) × Nat => ⟨[(0, .str P), (1, .str S), (5, .ms 4 1 b 0 m), (7, .int .i64 k), (8, .ms 4 1 Y.length 0 m), (9, .int .i64 q.2)], [], q.1⟩) (Pr := fun q => q.2 ≤ P.length ∧ KBox σ q.1 b (gRow P S k) ∧ KBox σ q.1 Y.length (hRow P S k q.2)) (μ := fun q => P.length - q.2) (a := (Y ++ [hRow P S k 0], 0)) (by simp) ⟨by simp, hO, hN⟩ ?_
        rintro ⟨Z, j⟩ ⟨hj, hZ1, hZ2⟩
        simp only at hj hZ1 hZ2 ⊢
        have w1j := w1 j (by omega)
        by_cases hjc : j < P.length
        · obtain ⟨c, hx⟩ : ∃ c, P[j]? = some c := ⟨_, List.getElem?_eq_getElem hjc⟩
          have hjm : j < m := by omega
          have hjm1 : j + 1 < m := by omega
          have hjm2 : j + 1 + 1 ≤ m := by omega
          have g1 := hZ1.get
          have g2 := hZ2.get
          have r0 : (gRow P S k)[j]? = some (.bool (globB (P.take j) (S.take k))) := rowF_get (by omega)
          have r1 : (gRow P S k)[j + 1]? = some (.bool (globB (P.take (j + 1)) (S.take k))) := rowF_get (by omega)
          have r2 : (hRow P S k j)[j]? = some (.bool (globB (P.take j) (S.take (k + 1)))) := by
            have : (hRow P S k j)[j]? = some (.bool (decide (j ≤ j) && globB (P.take j) (S.take (k + 1)))) := rowF_get (f := fun i => decide (i ≤ j) && globB (P.take i) (S.take (k + 1))) (by omega)
            simpa using this
          have hstep := hRow_step (P := P) (S := S) (k := k) hjc
          have hpt : P.take (j + 1) = P.take j ++ [c] := by rw [List.take_add_one, hx]; rfl
          have hst2 : S.take (k + 1) = S.take k ++ [d] := by rw [List.take_add_one, hd]; rfl
          have hfin : KBox σ (Z.set Y.length (hRow P S k (j + 1))) b (gRow P S k) ∧ KBox σ (Z.set Y.length (hRow P S k (j + 1))) Y.length (hRow P S k (j + 1)) := ⟨hZ1.set2 hZ2 (by omega) _, hZ2.set _⟩
          obtain ⟨G1, hG1⟩ : ∃ G, gRow P S k = G := ⟨_, rfl⟩
          obtain ⟨G2, hG2⟩ : ∃ G, hRow P S k j = G := ⟨_, rfl⟩
          have hG2l : G2.length = m := by rw [← hG2]; exact hhl k j
          rw [hG1] at g1 r0 r1
          rw [hG2] at g2 r2 hstep
          rw [hpt, hst2] at hstep
          rw [hpt] at r1
          rw [hst2] at r2
          obtain ⟨H', hH'⟩ : ∃ H', hRow P S k (j + 1) = H' := ⟨_, rfl⟩
          rw [hH'] at hstep hfin
          by_cases h42 : c = 42
          · subst h42
            rw [globB_star] at hstep
            obtain ⟨x1, hx1⟩ : ∃ x, globB (P.take j) (S.take k ++ [d]) = x := ⟨_, rfl⟩
            obtain ⟨x2, hx2⟩ : ∃ x, globB (P.take j ++ [42]) (S.take k) = x := ⟨_, rfl⟩
            rw [hx1] at hstep r2
            rw [hx2] at hstep r1
            cases x1 with
            | true =>
              simp only [Bool.true_or] at hstep
              simp (maxSteps := 4000000) [List.getElem?_cons_zero, List.getElem?_cons_succ, -getElem?_pos, -Prod.exists, hjc, hx, w1j, hjm, hjm1, hjm2, g1, g2, r2, hG2l, hstep]
              exact ⟨(_, j + 1), ⟨by simp; omega, hfin.1, by rw [hH']; exact hfin.2⟩, by simp; omega, by simp⟩
            | false =>
              cases x2 with
              | false =>
                simp only [Bool.false_or, Bool.false_and] at hstep
                simp (maxSteps := 4000000) [List.getElem?_cons_zero, List.getElem?_cons_succ, -getElem?_pos, -Prod.exists, hjc, hx, w1j, hjm, hjm1, hjm2, g1, g2, r1, r2, hG2l, hstep]
                exact ⟨(_, j + 1), ⟨by simp; omega, hfin.1, by rw [hH']; exact hfin.2⟩, by simp; omega, by simp⟩
              | true =>
                by_cases h47 : d = 47
                · subst h47
                  simp only [Bool.false_or, Bool.true_and, ne_eq, not_true_eq_false, decide_false] at hstep
                  simp (maxSteps := 4000000) [List.getElem?_cons_zero, List.getElem?_cons_succ, -getElem?_pos, -Prod.exists, hjc, hx, w1j, hjm, hjm1, hjm2, g1, g2, r1, r2, hd, hG2l, hstep]
                  exact ⟨(_, j + 1), ⟨by simp; omega, hfin.1, by rw [hH']; exact hfin.2⟩, by simp; omega, by simp⟩
                · simp only [Bool.false_or, Bool.true_and, ne_eq, h47, not_false_eq_true, decide_true] at hstep
                  simp (maxSteps := 4000000) [List.getElem?_cons_zero, List.getElem?_cons_succ, -getElem?_pos, -Prod.exists, hjc, hx, w1j, hjm, hjm1, hjm2, g1, g2, r1, r2, hd, h47, hG2l, hstep]
                  exact ⟨(_, j + 1), ⟨by simp; omega, hfin.1, by rw [hH']; exact hfin.2⟩, by simp; omega, by simp⟩
          · by_cases h63 : c = 63
            · subst h63
              rw [globB_any] at hstep
              obtain ⟨x1, hx1⟩ : ∃ x, globB (P.take j) (S.take k) = x := ⟨_, rfl⟩
              rw [hx1] at hstep r0
              cases x1 with
              | false =>
                simp only [Bool.false_and] at hstep
                simp (maxSteps := 4000000) [List.getElem?_cons_zero, List.getElem?_cons_succ, -getElem?_pos, -Prod.exists, hjc, hx, w1j, hjm, hjm1, hjm2, g1, g2, r0, hG2l, hstep]
                exact ⟨(_, j + 1), ⟨by simp; omega, hfin.1, by rw [hH']; exact hfin.2⟩, by simp; omega, by simp⟩
              | true =>
                by_cases h47 : d = 47
                · subst h47
                  simp only [Bool.true_and, ne_eq, not_true_eq_false, decide_false] at hstep
                  simp (maxSteps := 4000000) [List.getElem?_cons_zero, List.getElem?_cons_succ, -getElem?_pos, -Prod.exists, hjc, hx, w1j, hjm, hjm1, hjm2, g1, g2, r0, hd, hG2l, hstep]
                  exact ⟨(_, j + 1), ⟨by simp; omega, hfin.1, by rw [hH']; exact hfin.2⟩, by simp; omega, by simp⟩
                · simp only [Bool.true_and, ne_eq, h47, not_false_eq_true, decide_true] at hstep
                  simp (maxSteps := 4000000) [List.getElem?_cons_zero, List.getElem?_cons_succ, -getElem?_pos, -Prod.exists, hjc, hx, w1j, hjm, hjm1, hjm2, g1, g2, r0, hd, h47, hG2l, hstep]
                  exact ⟨(_, j + 1), ⟨by simp; omega, hfin.1, by rw [hH']; exact hfin.2⟩, by simp; omega, by simp⟩
            · rw [globB_one h42 h63] at hstep
              obtain ⟨x1, hx1⟩ : ∃ x, globB (P.take j) (S.take k) = x := ⟨_, rfl⟩
              rw [hx1] at hstep r0
              cases x1 with
              | false =>
                simp only [Bool.false_and] at hstep
                simp (maxSteps := 4000000) [List.getElem?_cons_zero, List.getElem?_cons_succ, -getElem?_pos, -Prod.exists, -regionA_true, hjc, hx, h42, h63]
                refine Post_bndD [] _ (by rfl) (by simp (maxSteps := 4000000) [List.getElem?_cons_zero, List.getElem?_cons_succ, ]; exact rfl) ?_
                repeat (first
                  | refine PostD_go _ (by rfl) (by rfl) (by simp (maxSteps := 4000000) [List.getElem?_cons_zero, List.getElem?_cons_succ, -getElem?_pos, hjc, hx, w1j, hjm, hjm1, hjm2, g1, g2, r0, hd, hG2l, hstep]; exact rfl) (by first | exact .inl rfl | exact .inr rfl) (by rfl) ?_
                  | refine PostD_no1 _ (by rfl) (by rfl) (by simp (maxSteps := 4000000) [List.getElem?_cons_zero, List.getElem?_cons_succ, ]; exact rfl) ?_)
                refine PostD_end ?_
                simp (maxSteps := 4000000) [List.getElem?_cons_zero, List.getElem?_cons_succ, -Prod.exists, w1j]
                exact ⟨(_, j + 1), ⟨by simp; omega, hfin.1, by rw [hH']; exact hfin.2⟩, by simp; omega, by simp⟩
              | true =>
                by_cases hdc : d = c
                · subst hdc
                  simp only [Bool.true_and, decide_true] at hstep
                  simp (maxSteps := 4000000) [List.getElem?_cons_zero, List.getElem?_cons_succ, -getElem?_pos, -Prod.exists, -regionA_true, hjc, hx, h42, h63]
                  refine Post_bndD [] _ (by rfl) (by simp (maxSteps := 4000000) [List.getElem?_cons_zero, List.getElem?_cons_succ, ]; exact rfl) ?_
                  repeat (first
                    | refine PostD_go _ (by rfl) (by rfl) (by simp (maxSteps := 4000000) [List.getElem?_cons_zero, List.getElem?_cons_succ, -getElem?_pos, hkc, hjc, hx, w1j, hjm, hjm1, hjm2, g1, g2, r0, hd, hG2l, hstep]; exact rfl) (by first | exact .inl rfl | exact .inr rfl) (by rfl) ?_
                    | refine PostD_no1 _ (by rfl) (by rfl) (by simp (maxSteps := 4000000) [List.getElem?_cons_zero, List.getElem?_cons_succ, ]; exact rfl) ?_)
                  refine PostD_end ?_
                  simp (maxSteps := 4000000) [List.getElem?_cons_zero, List.getElem?_cons_succ, -Prod.exists, w1j]
                  exact ⟨(_, j + 1), ⟨by simp; omega, hfin.1, by rw [hH']; exact hfin.2⟩, by simp; omega, by simp⟩
                · simp only [Bool.true_and, hdc, decide_false] at hstep
                  simp (maxSteps := 4000000) [List.getElem?_cons_zero, List.getElem?_cons_succ, -getElem?_pos, -Prod.exists, -regionA_true, hjc, hx, h42, h63]
                  refine Post_bndD [] _ (by rfl) (by simp (maxSteps := 4000000) [List.getElem?_cons_zero, List.getElem?_cons_succ, ]; exact rfl) ?_
                  repeat (first
                    | refine PostD_go _ (by rfl) (by rfl) (by simp (maxSteps := 4000000) [List.getElem?_cons_zero, List.getElem?_cons_succ, -getElem?_pos, hkc, hjc, hx, w1j, hjm, hjm1, hjm2, g1, g2, r0, hd, hdc, hG2l, hstep]; exact rfl) (by first | exact .inl rfl | exact .inr rfl) (by rfl) ?_
                    | refine PostD_no1 _ (by rfl) (by rfl) (by simp (maxSteps := 4000000) [List.getElem?_cons_zero, List.getElem?_cons_succ, ]; exact rfl) ?_)
                  refine PostD_end ?_
                  simp (maxSteps := 4000000) [List.getElem?_cons_zero, List.getElem?_cons_succ, -Prod.exists, w1j]
                  exact ⟨(_, j + 1), ⟨by simp; omega, hfin.1, by rw [hH']; exact hfin.2⟩, by simp; omega, by simp⟩
        · obtain rfl : j = P.length := by omega
          rw [hRow_last] at hZ2
          simp (maxSteps := 4000000) [List.getElem?_cons_zero, List.getElem?_cons_succ, -getElem?_pos, -Prod.exists, hjc, w1k]
          exact ⟨(Z, Y.length, k + 1), ⟨by simp; omega, hZ2⟩, by simp; omega, by simp⟩
      · obtain rfl : k = S.length := by omega
        have hPm : P.length < m := by omega
        have r0 : (gRow P S S.length)[P.length]? = some (.bool (globB P S)) := by
          have : (gRow P S S.length)[P.length]? = some (.bool (globB (P.take P.length) (S.take S.length))) := rowF_get (f := fun i => globB (P.take i) (S.take S.length)) (by omega)
          rwa [List.take_length, List.take_length] at this
        have g1 := hY.get
        have hlw := hY.low
        have htk := hY.tk
        simp (maxSteps := 4000000) [List.getElem?_cons_zero, List.getElem?_cons_succ, -getElem?_pos, hkc, hPm, g1, r0, need_of hlw, htk, Tryz.results35]
  · have hB := other (.inl (by omega))
    obtain ⟨X, hX⟩ : ∃ X, σ ++ [sRow m i] = X := ⟨_, rfl⟩
    rw [hX] at hB ⊢
    simp (maxSteps := 4000000) [List.getElem?_cons_zero, List.getElem?_cons_succ, -getElem?_pos, -Prod.exists, hc]
    refine Post_loop (I := fun q : List (List AV) × Nat × Nat => ⟨[(0, .str P), (1, .str S), (5, .ms 4 1 q.2.1 0 m), (7, .int .i64 q.2.2)], [], q.1⟩) (Pr := fun q => q.2.2 ≤ S.length ∧ KBox σ q.1 q.2.1 (gRow P S q.2.2)) (μ := fun q => S.length - q.2.2) (a := (X, σ.length, 0)) (by simp) ⟨by simp, hB⟩ ?_
    rintro ⟨Y, b, k⟩ ⟨hk, hY⟩
    simp only at hk hY ⊢
    have w1k := w1 k (by omega)
    by_cases hkc : k < S.length
    · obtain ⟨d, hd⟩ : ∃ d, S[k]? = some d := ⟨_, List.getElem?_eq_getElem hkc⟩
      have hfr := hRow_first (P := P) hkc
      rw [hm] at hfr
      have hN := hY.new (hRow P S k 0)
      have hO := hY.app [hRow P S k 0]
      have hbY := hY.lt
      simp (maxSteps := 4000000) [List.getElem?_cons_zero, List.getElem?_cons_succ, -getElem?_pos, -Prod.exists, hkc, w0, q0, hm1, hfl.trans hfr]
      refine Post_loop (I := fun q : List (List AV) × Nat => ⟨[(0, .str P), (1, .str S), (5, .ms 4 1 b 0 m), (7, .int .i64 k), (8, .ms 4 1 Y.length 0 m), (9, .int .i64 q.2)], [], q.1⟩) (Pr := fun q => q.2 ≤ P.length ∧ KBox σ q.1 b (gRow P S k) ∧ KBox σ q.1 Y.length (hRow P S k q.2)) (μ := fun q => P.length - q.2) (a := (Y ++ [hRow P S k 0], 0)) (by simp) ⟨by simp, hO, hN⟩ ?_
      rintro ⟨Z, j⟩ ⟨hj, hZ1, hZ2⟩
      simp only at hj hZ1 hZ2 ⊢
      have w1j := w1 j (by omega)
      by_cases hjc : j < P.length
      · obtain ⟨c, hx⟩ : ∃ c, P[j]? = some c := ⟨_, List.getElem?_eq_getElem hjc⟩
        have hjm : j < m := by omega
        have hjm1 : j + 1 < m := by omega
        have hjm2 : j + 1 + 1 ≤ m := by omega
        have g1 := hZ1.get
        have g2 := hZ2.get
        have r0 : (gRow P S k)[j]? = some (.bool (globB (P.take j) (S.take k))) := rowF_get (by omega)
        have r1 : (gRow P S k)[j + 1]? = some (.bool (globB (P.take (j + 1)) (S.take k))) := rowF_get (by omega)
        have r2 : (hRow P S k j)[j]? = some (.bool (globB (P.take j) (S.take (k + 1)))) := by
          have : (hRow P S k j)[j]? = some (.bool (decide (j ≤ j) && globB (P.take j) (S.take (k + 1)))) := rowF_get (f := fun i => decide (i ≤ j) && globB (P.take i) (S.take (k + 1))) (by omega)
          simpa using this
        have hstep := hRow_step (P := P) (S := S) (k := k) hjc
        have hpt : P.take (j + 1) = P.take j ++ [c] := by rw [List.take_add_one, hx]; rfl
        have hst2 : S.take (k + 1) = S.take k ++ [d] := by rw [List.take_add_one, hd]; rfl
        have hfin : KBox σ (Z.set Y.length (hRow P S k (j + 1))) b (gRow P S k) ∧ KBox σ (Z.set Y.length (hRow P S k (j + 1))) Y.length (hRow P S k (j + 1)) := ⟨hZ1.set2 hZ2 (by omega) _, hZ2.set _⟩
        obtain ⟨G1, hG1⟩ : ∃ G, gRow P S k = G := ⟨_, rfl⟩
        obtain ⟨G2, hG2⟩ : ∃ G, hRow P S k j = G := ⟨_, rfl⟩
        have hG2l : G2.length = m := by rw [← hG2]; exact hhl k j
        rw [hG1] at g1 r0 r1
        rw [hG2] at g2 r2 hstep
        rw [hpt, hst2] at hstep
        rw [hpt] at r1
        rw [hst2] at r2
        obtain ⟨H', hH'⟩ : ∃ H', hRow P S k (j + 1) = H' := ⟨_, rfl⟩
        rw [hH'] at hstep hfin
        by_cases h42 : c = 42
        · subst h42
          rw [globB_star] at hstep
          obtain ⟨x1, hx1⟩ : ∃ x, globB (P.take j) (S.take k ++ [d]) = x := ⟨_, rfl⟩
          obtain ⟨x2, hx2⟩ : ∃ x, globB (P.take j ++ [42]) (S.take k) = x := ⟨_, rfl⟩
          rw [hx1] at hstep r2
          rw [hx2] at hstep r1
          cases x1 with
          | true =>
            simp only [Bool.true_or] at hstep
            simp (maxSteps := 4000000) [List.getElem?_cons_zero, List.getElem?_cons_succ, -getElem?_pos, -Prod.exists, hjc, hx, w1j, hjm, hjm1, hjm2, g1, g2, r2, hG2l, hstep]
            exact ⟨(_, j + 1), ⟨by simp; omega, hfin.1, by rw [hH']; exact hfin.2⟩, by simp; omega, by simp⟩
          | false =>
            cases x2 with
            | false =>
              simp only [Bool.false_or, Bool.false_and] at hstep
              simp (maxSteps := 4000000) [List.getElem?_cons_zero, List.getElem?_cons_succ, -getElem?_pos, -Prod.exists, hjc, hx, w1j, hjm, hjm1, hjm2, g1, g2, r1, r2, hG2l, hstep]
              exact ⟨(_, j + 1), ⟨by simp; omega, hfin.1, by rw [hH']; exact hfin.2⟩, by simp; omega, by simp⟩
            | true =>
              by_cases h47 : d = 47
              · subst h47
                simp only [Bool.false_or, Bool.true_and, ne_eq, not_true_eq_false, decide_false] at hstep
                simp (maxSteps := 4000000) [List.getElem?_cons_zero, List.getElem?_cons_succ, -getElem?_pos, -Prod.exists, hjc, hx, w1j, hjm, hjm1, hjm2, g1, g2, r1, r2, hd, hG2l, hstep]
                exact ⟨(_, j + 1), ⟨by simp; omega, hfin.1, by rw [hH']; exact hfin.2⟩, by simp; omega, by simp⟩
              · simp only [Bool.false_or, Bool.true_and, ne_eq, h47, not_false_eq_true, decide_true] at hstep
                simp (maxSteps := 4000000) [List.getElem?_cons_zero, List.getElem?_cons_succ, -getElem?_pos, -Prod.exists, hjc, hx, w1j, hjm, hjm1, hjm2, g1, g2, r1, r2, hd, h47, hG2l, hstep]
                exact ⟨(_, j + 1), ⟨by simp; omega, hfin.1, by rw [hH']; exact hfin.2⟩, by simp; omega, by simp⟩
        · by_cases h63 : c = 63
          · subst h63
            rw [globB_any] at hstep
            obtain ⟨x1, hx1⟩ : ∃ x, globB (P.take j) (S.take k) = x := ⟨_, rfl⟩
            rw [hx1] at hstep r0
            cases x1 with
            | false =>
              simp only [Bool.false_and] at hstep
              simp (maxSteps := 4000000) [List.getElem?_cons_zero, List.getElem?_cons_succ, -getElem?_pos, -Prod.exists, hjc, hx, w1j, hjm, hjm1, hjm2, g1, g2, r0, hG2l, hstep]
              exact ⟨(_, j + 1), ⟨by simp; omega, hfin.1, by rw [hH']; exact hfin.2⟩, by simp; omega, by simp⟩
            | true =>
              by_cases h47 : d = 47
              · subst h47
                simp only [Bool.true_and, ne_eq, not_true_eq_false, decide_false] at hstep
                simp (maxSteps := 4000000) [List.getElem?_cons_zero, List.getElem?_cons_succ, -getElem?_pos, -Prod.exists, hjc, hx, w1j, hjm, hjm1, hjm2, g1, g2, r0, hd, hG2l, hstep]
                exact ⟨(_, j + 1), ⟨by simp; omega, hfin.1, by rw [hH']; exact hfin.2⟩, by simp; omega, by simp⟩
              · simp only [Bool.true_and, ne_eq, h47, not_false_eq_true, decide_true] at hstep
                simp (maxSteps := 4000000) [List.getElem?_cons_zero, List.getElem?_cons_succ, -getElem?_pos, -Prod.exists, hjc, hx, w1j, hjm, hjm1, hjm2, g1, g2, r0, hd, h47, hG2l, hstep]
                exact ⟨(_, j + 1), ⟨by simp; omega, hfin.1, by rw [hH']; exact hfin.2⟩, by simp; omega, by simp⟩
          · rw [globB_one h42 h63] at hstep
            obtain ⟨x1, hx1⟩ : ∃ x, globB (P.take j) (S.take k) = x := ⟨_, rfl⟩
            rw [hx1] at hstep r0
            cases x1 with
            | false =>
              simp only [Bool.false_and] at hstep
              simp (maxSteps := 4000000) [List.getElem?_cons_zero, List.getElem?_cons_succ, -getElem?_pos, -Prod.exists, -regionA_true, hjc, hx, h42, h63]
              refine Post_bndD [] _ (by rfl) (by simp (maxSteps := 4000000) [List.getElem?_cons_zero, List.getElem?_cons_succ, ]; exact rfl) ?_
              repeat (first
                | refine PostD_go _ (by rfl) (by rfl) (by simp (maxSteps := 4000000) [List.getElem?_cons_zero, List.getElem?_cons_succ, -getElem?_pos, hjc, hx, w1j, hjm, hjm1, hjm2, g1, g2, r0, hd, hG2l, hstep]; exact rfl) (by first | exact .inl rfl | exact .inr rfl) (by rfl) ?_
                | refine PostD_no1 _ (by rfl) (by rfl) (by simp (maxSteps := 4000000) [List.getElem?_cons_zero, List.getElem?_cons_succ, ]; exact rfl) ?_)
              refine PostD_end ?_
              simp (maxSteps := 4000000) [List.getElem?_cons_zero, List.getElem?_cons_succ, -Prod.exists, w1j]
              exact ⟨(_, j + 1), ⟨by simp; omega, hfin.1, by rw [hH']; exact hfin.2⟩, by simp; omega, by simp⟩
            | true =>
              by_cases hdc : d = c
              · subst hdc
                simp only [Bool.true_and, decide_true] at hstep
                simp (maxSteps := 4000000) [List.getElem?_cons_zero, List.getElem?_cons_succ, -getElem?_pos, -Prod.exists, -regionA_true, hjc, hx, h42, h63]
                refine Post_bndD [] _ (by rfl) (by simp (maxSteps := 4000000) [List.getElem?_cons_zero, List.getElem?_cons_succ, ]; exact rfl) ?_
                repeat (first
                  | refine PostD_go _ (by rfl) (by rfl) (by simp (maxSteps := 4000000) [List.getElem?_cons_zero, List.getElem?_cons_succ, -getElem?_pos, hkc, hjc, hx, w1j, hjm, hjm1, hjm2, g1, g2, r0, hd, hG2l, hstep]; exact rfl) (by first | exact .inl rfl | exact .inr rfl) (by rfl) ?_
                  | refine PostD_no1 _ (by rfl) (by rfl) (by simp (maxSteps := 4000000) [List.getElem?_cons_zero, List.getElem?_cons_succ, ]; exact rfl) ?_)
                refine PostD_end ?_
                simp (maxSteps := 4000000) [List.getElem?_cons_zero, List.getElem?_cons_succ, -Prod.exists, w1j]
                exact ⟨(_, j + 1), ⟨by simp; omega, hfin.1, by rw [hH']; exact hfin.2⟩, by simp; omega, by simp⟩
              · simp only [Bool.true_and, hdc, decide_false] at hstep
                simp (maxSteps := 4000000) [List.getElem?_cons_zero, List.getElem?_cons_succ, -getElem?_pos, -Prod.exists, -regionA_true, hjc, hx, h42, h63]
                refine Post_bndD [] _ (by rfl) (by simp (maxSteps := 4000000) [List.getElem?_cons_zero, List.getElem?_cons_succ, ]; exact rfl) ?_
                repeat (first
                  | refine PostD_go _ (by rfl) (by rfl) (by simp (maxSteps := 4000000) [List.getElem?_cons_zero, List.getElem?_cons_succ, -getElem?_pos, hkc, hjc, hx, w1j, hjm, hjm1, hjm2, g1, g2, r0, hd, hdc, hG2l, hstep]; exact rfl) (by first | exact .inl rfl | exact .inr rfl) (by rfl) ?_
                  | refine PostD_no1 _ (by rfl) (by rfl) (by simp (maxSteps := 4000000) [List.getElem?_cons_zero, List.getElem?_cons_succ, ]; exact rfl) ?_)
                refine PostD_end ?_
                simp (maxSteps := 4000000) [List.getElem?_cons_zero, List.getElem?_cons_succ, -Prod.exists, w1j]
                exact ⟨(_, j + 1), ⟨by simp; omega, hfin.1, by rw [hH']; exact hfin.2⟩, by simp; omega, by simp⟩
      · obtain rfl : j = P.length := by omega
        rw [hRow_last] at hZ2
        simp (maxSteps := 4000000) [List.getElem?_cons_zero, List.getElem?_cons_succ, -getElem?_pos, -Prod.exists, hjc, w1k]
        exact ⟨(Z, Y.length, k + 1), ⟨by simp; omega, hZ2⟩, by simp; omega, by simp⟩
    · obtain rfl : k = S.length := by omega
      have hPm : P.length < m := by omega
      have r0 : (gRow P S S.length)[P.length]? = some (.bool (globB P S)) := by
        have : (gRow P S S.length)[P.length]? = some (.bool (globB (P.take P.length) (S.take S.length))) := rowF_get (f := fun i => globB (P.take i) (S.take S.length)) (by omega)
        rwa [List.take_length, List.take_length] at this
      have g1 := hY.get
      have hlw := hY.low
      have htk := hY.tk
      simp (maxSteps := 4000000) [List.getElem?_cons_zero, List.getElem?_cons_succ, -getElem?_pos, hkc, hPm, g1, r0, need_of hlw, htk, Tryz.results35]
end Go.Proofs.Tryz.Ai
end
section
/- The document's Match; lists of patterns, both. -/
namespace Go.Proofs.Tryz.Ai
open Go Go.AI Go.Proofs Go.B64
set_option maxHeartbeats 8000000
set_option maxRecDepth 4000
set_option linter.unusedVariables false

theorem joinB_snoc (c : UInt8) (x : List UInt8) : ∀ {l : List (List UInt8)}, l ≠ [] → joinB c (l ++ [x]) = joinB c l ++ c :: x := by
  intro l
  induction l with
  | nil => intro h; exact absurd rfl h
  | cons a l ih =>
    intro _
    cases l with
    | nil => rfl
    | cons b l =>
      rw [List.cons_append, joinB_cons c a (by simp), ih (by simp), joinB_cons c a (by simp)]; simp
theorem rMatch_eq (l : List (List UInt8)) (hl : l.length ≤ 2 ^ 29) (hll : ∀ p ∈ l, p.length ≤ 2 ^ 29) (path : List UInt8) (hp : path.length ≤ 2 ^ 29) (σ : List (List AV)) :
    ev 36 [.sl .sh (l.map .str), .str path] σ = some (.bool (l.any (matchP (splitB 47 path))), σ) := by
  have hC0 : ∀ σ, ev 37 [.str path, .int .u8 47] σ = some (.sl (.ex 9 1) ((splitB 47 path).map .str), σ) := Cut_eq path (by omega) 47
  have hm := splitB_many 47 path
  have hj := join_split 47 path
  have hne := splitB_ne 47 path
  obtain ⟨E, hE⟩ : ∃ E, splitB 47 path = E := ⟨_, rfl⟩
  rw [hE] at hC0 hm hj hne ⊢
  have hEl := List.length_pos_iff.2 hne
  have w1 : ∀ n : Nat, n ≤ 2 ^ 30 → IntKind.i64.wrap ((n : Int) + 1) = (n : Int) + 1 := fun n h => wrap64 (by omega)
  refine EV_post rfl Tryz.func36 rfl (by simp [Tryz.ntmps36]) (by kernel_rfl) (by kernel_rfl) ?_
  simp (maxSteps := 4000000) [List.getElem?_cons_zero, List.getElem?_cons_succ, hC0]
  refine Post_loop (I := fun i : Nat => ⟨[(0, .sl .sh (l.map .str)), (5, .sl (.ex 9 1) (E.map .str)), (6, .int .i64 i)], [], σ⟩) (Pr := fun i => i ≤ l.length ∧ (l.take i).any (matchP E) = false) (μ := fun i => l.length - i) (a := 0) (by simp) (by simp) ?_
  rintro i ⟨hi, hn⟩
  have w1i := w1 i (by omega)
  by_cases hc : i < l.length
  · obtain ⟨p, hx⟩ : ∃ p, l[i]? = some p := ⟨_, List.getElem?_eq_getElem hc⟩
    have hpl := hll p (List.mem_of_getElem? hx)
    have hCp : ∀ σ, ev 37 [.str p, .int .u8 47] σ = some (.sl (.ex 9 1) ((splitB 47 p).map .str), σ) := Cut_eq p (by omega) 47
    have hpm := splitB_many 47 p
    have hpn := List.length_pos_iff.2 (splitB_ne 47 p)
    have hin := any_take_succ hx hn
    obtain ⟨Q, hQ⟩ : ∃ Q, splitB 47 p = Q := ⟨_, rfl⟩
    obtain ⟨n, hnn⟩ : ∃ n, Q.length = n := ⟨_, rfl⟩
    have hM : matchP E p = (decide (n ≤ E.length) && globB p (joinB 47 (E.take n))) := by unfold matchP; rw [hQ, hnn]
    rw [hQ] at hCp hpm hpn
    rw [hnn] at hpm hpn
    by_cases hnE : n ≤ E.length
    · have hnE' : ¬ E.length < n := by omega
      obtain ⟨e0, he0⟩ : ∃ e, E[0]? = some e := ⟨_, List.getElem?_eq_getElem hEl⟩
      simp (maxSteps := 4000000) [List.getElem?_cons_zero, List.getElem?_cons_succ, -getElem?_pos, hc, hx, hCp, hnn, hnE', he0]
      refine Post_loop (I := fun k : Nat => ⟨[(0, .sl .sh (l.map .str)), (5, .sl (.ex 9 1) (E.map .str)), (6, .int .i64 i), (7, .int .i64 n), (8, .str (joinB 47 (E.take k))), (9, .int .i64 k)], [], σ⟩) (Pr := fun k => 1 ≤ k ∧ k ≤ n) (μ := fun k => n - k) (a := 1) (by
        have : E.take 1 = [e0] := by rw [List.take_add_one, he0]; rfl
        simp [this, joinB]) (by omega) ?_
      rintro k ⟨hk1, hkn⟩
      have w1k := w1 k (by omega)
      by_cases hkc : k < n
      · obtain ⟨e, he⟩ : ∃ e, E[k]? = some e := ⟨_, List.getElem?_eq_getElem (by omega)⟩
        have htk : E.take (k + 1) = E.take k ++ [e] := by rw [List.take_add_one, he]; rfl
        have hjs := joinB_snoc 47 e (l := E.take k) (by intro h; have := congrArg List.length h; rw [List.length_take, List.length_nil] at this; omega)
        rw [← htk] at hjs
        have hlen := joinB_take 47 E (k + 1)
        rw [hj] at hlen
        obtain ⟨J, hJ⟩ : ∃ J, joinB 47 (E.take k) = J := ⟨_, rfl⟩
        obtain ⟨J', hJ'⟩ : ∃ J, joinB 47 (E.take (k + 1)) = J := ⟨_, rfl⟩
        rw [hJ, hJ'] at hjs
        rw [hJ'] at hlen
        rw [hJ]
        have hJl : J.length + 1 + e.length = J'.length := by rw [hjs]; simp; omega
        have q1 : J.length + 1 ≤ most := by unfold most; omega
        have q2 : J.length + 1 + e.length ≤ most := by unfold most; omega
        have hfin : J ++ 47 :: e = J' := hjs.symm
        have hkE : k < E.length := by omega
        simp (maxSteps := 4000000) [List.getElem?_cons_zero, List.getElem?_cons_succ, -getElem?_pos, hkc, he, q1, q2, hfin, w1k]
        exact ⟨k + 1, by omega, by omega, by rw [hJ'], by simp⟩
      · obtain rfl : k = n := by omega
        have hjl := joinB_take 47 E k
        rw [hj] at hjl
        have hG := rGlob_eq p (joinB 47 (E.take k)) (by omega) (by omega)
        obtain ⟨J, hJ⟩ : ∃ J, joinB 47 (E.take k) = J := ⟨_, rfl⟩
        rw [hJ] at hG hM ⊢
        rw [decide_eq_true hnE, Bool.true_and] at hM
        obtain ⟨g, hg⟩ : ∃ g, globB p J = g := ⟨_, rfl⟩
        rw [hg] at hG hM
        cases g with
        | true =>
          have hany : l.any (matchP E) = true := List.any_eq_true.2 ⟨p, List.mem_of_getElem? hx, hM⟩
          simp (maxSteps := 4000000) [List.getElem?_cons_zero, List.getElem?_cons_succ, -getElem?_pos, hkc, hc, hx, hG, hany, Tryz.results36]
        | false =>
          rw [hM] at hin
          simp (maxSteps := 4000000) [List.getElem?_cons_zero, List.getElem?_cons_succ, -getElem?_pos, hkc, hc, hx, hG, w1i]
          exact ⟨i + 1, ⟨by omega, by simpa using hin⟩, by omega, by simp⟩
    · have hnE' : E.length < n := by omega
      rw [decide_eq_false hnE, Bool.false_and] at hM
      rw [hM] at hin
      simp (maxSteps := 4000000) [List.getElem?_cons_zero, List.getElem?_cons_succ, -getElem?_pos, hc, hx, hCp, hnn, hnE', w1i]
      exact ⟨i + 1, ⟨by omega, by simpa using hin⟩, by omega, by simp⟩
  · rw [List.take_of_length_le (by omega)] at hn
    simp (maxSteps := 4000000) [List.getElem?_cons_zero, List.getElem?_cons_succ, hc, hn, Tryz.results36]
def oddP (c : UInt8) : Bool := decide (c.toNat < 33) || decide (126 < c.toNat)
def badP (p : List UInt8) : Bool := (splitB 47 p).any fun e => e == [] || e.any oddP
def patP (s : List UInt8) : List (List UInt8) × Int := if s = [] then ([], 0) else if 1000 < s.length then ([], 13) else if (splitB 44 s).any badP then ([], 15) else if 20 < (splitB 44 s).length then ([], 14) else (splitB 44 s, 0)
theorem rPatterns_eq (s : List UInt8) (hs : s.length ≤ 2 ^ 29) (σ : List (List AV)) : ev 33 [.str s] σ = some (.tup [.sl .sh ((patP s).1.map .str), .int .i64 (patP s).2], σ) := by
  have hC : ∀ σ, ev 37 [.str s, .int .u8 44] σ = some (.sl (.ex 9 1) ((splitB 44 s).map .str), σ) := Cut_eq s (by omega) 44
  have hm := splitB_many 44 s
  have hmem := fun x (hx : x ∈ splitB 44 s) => splitB_le hx
  have w1 : ∀ n : Nat, n ≤ 2 ^ 30 → IntKind.i64.wrap ((n : Int) + 1) = (n : Int) + 1 := fun n h => wrap64 (by omega)
  refine EV_post rfl Tryz.func33 rfl (by simp [Tryz.ntmps33]) (by kernel_rfl) (by kernel_rfl) ?_
  by_cases c1 : 1000 < s.length
  · have hne : s ≠ [] := by rintro rfl; simp at c1
    have hP : patP s = ([], 13) := by unfold patP; rw [if_neg hne, if_pos c1]
    simp (maxSteps := 4000000) [List.getElem?_cons_zero, List.getElem?_cons_succ, c1, hP, Tryz.results33]
  by_cases c2 : s = []
  · have hP : patP s = ([], 0) := by unfold patP; rw [if_pos c2]
    have c2' : (s == []) = true := by simpa using c2
    simp (maxSteps := 4000000) [List.getElem?_cons_zero, List.getElem?_cons_succ, c1, c2', hP, Tryz.results33]
  have c2' : (s == []) = false := by simpa using c2
  have hP : patP s = if (splitB 44 s).any badP then ([], 15) else if 20 < (splitB 44 s).length then ([], 14) else (splitB 44 s, 0) := by unfold patP; rw [if_neg c2, if_neg c1]
  obtain ⟨L, hL⟩ : ∃ L, splitB 44 s = L := ⟨_, rfl⟩
  rw [hL] at hC hm hmem hP
  simp (maxSteps := 4000000) [List.getElem?_cons_zero, List.getElem?_cons_succ, c1, c2', hC]
  refine Post_loop (I := fun i : Nat => ⟨[(4, .sl (.ex 9 1) (L.map .str)), (5, .int .i64 i)], [], σ⟩) (Pr := fun i => i ≤ L.length ∧ (L.take i).any badP = false) (μ := fun i => L.length - i) (a := 0) (by simp) (by simp) ?_
  rintro i ⟨hi, hn⟩
  have w1i := w1 i (by omega)
  by_cases hc : i < L.length
  · obtain ⟨p, hx⟩ : ∃ p, L[i]? = some p := ⟨_, List.getElem?_eq_getElem hc⟩
    have hpl := hmem p (List.mem_of_getElem? hx)
    have hCp : ∀ σ, ev 37 [.str p, .int .u8 47] σ = some (.sl (.ex 9 1) ((splitB 47 p).map .str), σ) := Cut_eq p (by omega) 47
    have hpm := splitB_many 47 p
    have hin := any_take_succ hx hn
    have hmem2 := fun x (hx : x ∈ splitB 47 p) => splitB_le hx
    have hbad : badP p = true → patP s = ([], 15) := fun h => by rw [hP, if_pos (List.any_eq_true.2 ⟨p, List.mem_of_getElem? hx, h⟩)]
    have hB : badP p = (splitB 47 p).any fun e => e == [] || e.any oddP := rfl
    obtain ⟨Q, hQ⟩ : ∃ Q, splitB 47 p = Q := ⟨_, rfl⟩
    rw [hQ] at hCp hpm hB hmem2
    simp (maxSteps := 4000000) [List.getElem?_cons_zero, List.getElem?_cons_succ, -getElem?_pos, hc, hx, hCp]
    refine Post_loop (I := fun k : Nat => ⟨[(4, .sl (.ex 9 1) (L.map .str)), (5, .int .i64 i), (6, .sl (.ex 9 1) (Q.map .str)), (7, .int .i64 k)], [], σ⟩) (Pr := fun k => k ≤ Q.length ∧ ((Q.take k).any fun e => e == [] || e.any oddP) = false) (μ := fun k => Q.length - k) (a := 0) (by simp) (by simp) ?_
    rintro k ⟨hk, hkn⟩
    have w1k := w1 k (by omega)
    by_cases hkc : k < Q.length
    · obtain ⟨e, he⟩ : ∃ e, Q[k]? = some e := ⟨_, List.getElem?_eq_getElem hkc⟩
      have hel := hmem2 e (List.mem_of_getElem? he)
      have hkin := any_take_succ he hkn
      have hbe : (e == [] || e.any oddP) = true → badP p = true := fun h => by rw [hB]; exact List.any_eq_true.2 ⟨e, List.mem_of_getElem? he, h⟩
      by_cases he0 : e = []
      · have he0' : (e == []) = true := by simpa using he0
        have hR := hbad (hbe (by rw [he0']; rfl))
        simp (maxSteps := 4000000) [List.getElem?_cons_zero, List.getElem?_cons_succ, -getElem?_pos, hkc, he, he0', hR, Tryz.results33]
      · have he0' : (e == []) = false := by simpa using he0
        rw [he0', Bool.false_or] at hbe hkin
        simp (maxSteps := 4000000) [List.getElem?_cons_zero, List.getElem?_cons_succ, -getElem?_pos, hkc, he, he0']
        refine Post_loop (I := fun j : Nat => ⟨[(4, .sl (.ex 9 1) (L.map .str)), (5, .int .i64 i), (6, .sl (.ex 9 1) (Q.map .str)), (7, .int .i64 k), (8, .int .i64 j)], [], σ⟩) (Pr := fun j => j ≤ e.length ∧ (e.take j).any oddP = false) (μ := fun j => e.length - j) (a := 0) (by simp) (by simp) ?_
        rintro j ⟨hj, hjn⟩
        have w1j := w1 j (by omega)
        by_cases hjc : j < e.length
        · obtain ⟨c, hcx⟩ : ∃ c, e[j]? = some c := ⟨_, List.getElem?_eq_getElem hjc⟩
          have hjin := any_take_succ hcx hjn
          by_cases o1 : c.toNat < 33
          · have hR := hbad (hbe (List.any_eq_true.2 ⟨c, List.mem_of_getElem? hcx, by unfold oddP; simp [o1]⟩))
            simp (maxSteps := 4000000) [List.getElem?_cons_zero, List.getElem?_cons_succ, -getElem?_pos, hkc, he, hjc, hcx, o1, hR, Tryz.results33]
          · by_cases o2 : 126 < c.toNat
            · have hR := hbad (hbe (List.any_eq_true.2 ⟨c, List.mem_of_getElem? hcx, by unfold oddP; simp [o2]⟩))
              simp (maxSteps := 4000000) [List.getElem?_cons_zero, List.getElem?_cons_succ, -getElem?_pos, hkc, he, hjc, hcx, o1, o2, hR, Tryz.results33]
            · have hod : oddP c = false := by unfold oddP; simp [o1, o2]
              rw [hod] at hjin
              simp (maxSteps := 4000000) [List.getElem?_cons_zero, List.getElem?_cons_succ, -getElem?_pos, hkc, he, hjc, hcx, o1, o2, w1j]
              exact ⟨j + 1, ⟨by omega, by simpa using hjin⟩, by omega, by simp⟩
        · rw [List.take_of_length_le (by omega)] at hjn
          rw [hjn] at hkin
          simp (maxSteps := 4000000) [List.getElem?_cons_zero, List.getElem?_cons_succ, -getElem?_pos, hkc, he, hjc, w1k]
          exact ⟨k + 1, ⟨by omega, by simpa using hkin⟩, by omega, by simp⟩
    · rw [List.take_of_length_le (by omega)] at hkn
      rw [← hB] at hkn
      rw [hkn] at hin
      simp (maxSteps := 4000000) [List.getElem?_cons_zero, List.getElem?_cons_succ, hkc, w1i]
      exact ⟨i + 1, ⟨by omega, by simpa using hin⟩, by omega, by simp⟩
  · rw [List.take_of_length_le (by omega)] at hn
    rw [hn, if_neg (by simp)] at hP
    by_cases h20 : 20 < L.length
    · rw [if_pos h20] at hP
      simp (maxSteps := 4000000) [List.getElem?_cons_zero, List.getElem?_cons_succ, hc, h20, hP, Tryz.results33]
    · rw [if_neg h20] at hP
      simp (maxSteps := 4000000) [List.getElem?_cons_zero, List.getElem?_cons_succ, hc, h20, hP, Tryz.results33]
end Go.Proofs.Tryz.Ai
end
section
/- sumfile.Patterns. -/
namespace Go.Proofs.Tryz.Ai
open Go Go.AI Go.Proofs Go.B64
set_option maxHeartbeats 8000000
set_option maxRecDepth 4000
set_option linter.unusedVariables false

theorem idx_any (p : Nat → Bool) (hp : ∀ x, 128 ≤ x → p x = true) (s : ByteArray) : ∀ (f pos : Nat), s.size ≤ pos + f → decide (0 ≤ Lib.idxFuncFrom p true s f pos) = (s.data.toList.drop pos).any fun b => p b.toNat := by
  have hsz : s.data.toList.length = s.size := by show s.data.toList.length = s.data.size; simp
  intro f
  induction f with
  | zero =>
    intro pos h
    rw [List.drop_of_length_le (by omega)]
    simp [Lib.idxFuncFrom]
  | succ f ih =>
    intro pos h
    unfold Lib.idxFuncFrom
    by_cases hlt : pos < s.size
    · rw [if_pos hlt]
      have hd : s.data.toList.drop pos = s[pos]'hlt :: s.data.toList.drop (pos + 1) := by
        rw [List.drop_eq_getElem_cons (by omega)]; rfl
      rw [hd, List.any_cons]
      by_cases ha : (s[pos]'hlt).toNat < 128
      · rw [decode_ascii s pos hlt ha]
        simp only
        by_cases hpp : p (s[pos]'hlt).toNat = true
        · rw [if_pos hpp, hpp]; simp
        · rw [if_neg hpp, ih (pos + 1) (by omega)]
          simp only [Bool.not_eq_true] at hpp
          rw [hpp, Bool.false_or]
      · have hh := (decode_high s pos hlt (by omega)).1
        rw [if_pos (hp _ hh), hp _ (by omega)]; simp
    · rw [if_neg hlt, List.drop_of_length_le (by omega)]; simp
theorem idxFunc_any (p : Nat → Bool) (hp : ∀ x, 128 ≤ x → p x = true) (s : ByteArray) : decide (0 ≤ Lib.idxFunc p true s) = s.data.toList.any fun b => p b.toNat :=
  (idx_any p hp s s.size 0 (by omega)).trans (by simp)
theorem ContainsFunc_any (g : FuncId) (hg : AI.base g = g) (p : Nat → Bool) (hp : ∀ x : Nat, ∃ s, EV Tryz.prog H (fun _ => none) g [.int .i32 x] [] = some (.bool (p x), s)) (h128 : ∀ x, 128 ≤ x → p x = true) (l : List UInt8) (σ) :
    ev 71 [.str l, .fn g []] σ = some (.bool (l.any fun b => p b.toNat), σ) := by
  have hq : ∀ x, predOf H g x = some (p x) := fun x => by
    obtain ⟨s, h⟩ := hp x
    unfold predOf; rw [h]
  rw [ev_ContainsFunc]
  simp only [containsFuncT]
  rw [need_of ⟨hg, fun x _ => by rw [hq]; rfl⟩]
  have : (fun x => (predOf H g x).getD false) = p := by funext x; rw [hq]; rfl
  rw [this, idxFunc_any p h128]
def dbl (p : List UInt8) : Prop := ∃ i : Nat, p[i]? = some 47 ∧ p[i + 1]? = some 47
theorem split_empty : ∀ (n : Nat) (p : List UInt8), p.length ≤ n → ([] ∈ splitB 47 p ↔ p = [] ∨ p[0]? = some 47 ∨ (0 < p.length ∧ p[p.length - 1]? = some 47) ∨ dbl p) := by
  intro n
  induction n with
  | zero => intro p hp; have : p = [] := List.eq_nil_of_length_eq_zero (by omega); subst this; simp [splitB_not]
  | succ n ih =>
    intro p hp
    cases hi : ix 47 p with
    | none =>
      have hno := ix_none.1 hi
      rw [splitB_none hi, List.mem_singleton]
      constructor
      · intro h; exact .inl h.symm
      · rintro (h | h | ⟨_, h⟩ | ⟨i, h, _⟩)
        · exact h.symm
        · exact absurd (List.mem_of_getElem? h) hno
        · exact absurd (List.mem_of_getElem? h) hno
        · exact absurd (List.mem_of_getElem? h) hno
    | some k =>
      obtain ⟨h1, h2, h3, _⟩ := ix_some hi
      have hr := ih (p.drop (k + 1)) (by simp; omega)
      have hrl : (p.drop (k + 1)).length = p.length - (k + 1) := by simp
      have hrg : ∀ j, (p.drop (k + 1))[j]? = p[k + 1 + j]? := fun j => by rw [List.getElem?_drop]
      have far : ∀ j, j < k → p[j]? ≠ some 47 := fun j hj h => h3 (List.mem_of_getElem? (i := j) (by rw [List.getElem?_take, if_pos hj]; exact h))
      rw [splitB_ix hi, List.mem_cons, hr]
      constructor
      · rintro (h | h | h | ⟨h, h'⟩ | ⟨i, h, h'⟩)
        · have : k = 0 := by have := congrArg List.length h; simp at this; omega
          subst this; exact .inr (.inl h2)
        · have : p.length - 1 = k := by have := congrArg List.length h; simp at this; omega
          exact .inr (.inr (.inl ⟨by omega, by rw [this]; exact h2⟩))
        · rw [hrg] at h
          exact .inr (.inr (.inr ⟨k, h2, h⟩))
        · rw [hrg, hrl] at h'
          exact .inr (.inr (.inl ⟨by omega, by rw [← h']; congr 1; omega⟩))
        · rw [hrg] at h h'
          exact .inr (.inr (.inr ⟨k + 1 + i, h, h'⟩))
      · rintro (h | h | ⟨h, h'⟩ | ⟨i, h, h'⟩)
        · subst h; simp at h1
        · rcases Nat.eq_zero_or_pos k with h0 | h0
          · subst h0; exact .inl rfl
          · exact absurd h (far 0 h0)
        · rcases Nat.lt_trichotomy (p.length - 1) k with h0 | h0 | h0
          · exact absurd h' (far _ h0)
          · exact .inr (.inl (List.eq_nil_of_length_eq_zero (by rw [hrl]; omega)))
          · exact .inr (.inr (.inr (.inl ⟨by rw [hrl]; omega, by rw [hrg, hrl, ← h']; congr 1; omega⟩)))
        · rcases Nat.lt_trichotomy i k with h0 | h0 | h0
          · exact absurd h (far _ h0)
          · subst h0; exact .inr (.inr (.inl (by rw [hrg]; exact h')))
          · exact .inr (.inr (.inr (.inr ⟨i - (k + 1), by rw [hrg, ← h]; congr 1; omega, by rw [hrg, ← h']; congr 1; omega⟩)))
theorem any_joinB {f : UInt8 → Bool} {c : UInt8} (hf : f c = false) : ∀ l : List (List UInt8), (joinB c l).any f = l.any fun e => e.any f := by
  intro l
  induction l with
  | nil => rfl
  | cons x r ih =>
    cases r with
    | nil => simp [joinB]
    | cons y r => rw [joinB_cons c x (by simp), List.any_append, List.any_cons, hf, Bool.false_or, ih, List.any_cons (a := x)]
theorem badP_eq (p : List UInt8) : badP p = true ↔ (p = [] ∨ p[0]? = some 47 ∨ (0 < p.length ∧ p[p.length - 1]? = some 47) ∨ dbl p) ∨ p.any oddP = true := by
  have h1 := split_empty p.length p (Nat.le_refl _)
  have h2 := any_joinB (f := oddP) (c := 47) (by decide) (splitB 47 p)
  rw [join_split] at h2
  rw [← h1, h2]
  unfold badP
  rw [List.any_eq_true, List.any_eq_true]
  constructor
  · rintro ⟨e, he, h⟩
    rw [Bool.or_eq_true, beq_iff_eq] at h
    rcases h with rfl | h
    · exact .inl he
    · exact .inr ⟨e, he, h⟩
  · rintro (h | ⟨e, he, h⟩)
    · exact ⟨[], h, rfl⟩
    · exact ⟨e, he, by rw [h, Bool.or_true]⟩
theorem contains_dbl (p : List UInt8) : Lib.contains p [47, 47] = true ↔ dbl p := by
  have hocc : ∀ j, Lib.occAt p [47, 47] j = true ↔ p[j]? = some 47 ∧ p[j + 1]? = some 47 := by
    intro j
    unfold Lib.occAt
    rw [List.isPrefixOf_iff_prefix]
    constructor
    · rintro ⟨t, ht⟩
      have e0 := congrArg (·[0]?) ht
      have e1 := congrArg (·[1]?) ht
      simp at e0 e1
      exact ⟨e0.symm, e1.symm⟩
    · rintro ⟨h1, h2⟩
      exact ⟨p.drop (j + 2), by rw [dropG_cons h1, dropG_cons h2]; rfl⟩
  unfold Lib.contains
  rcases Lib.index_spec p [47, 47] with ⟨h1, h2⟩ | ⟨i, h1, h2, h3, _⟩
  · rw [h1]
    constructor
    · intro h; simp at h
    · rintro ⟨i, hi⟩
      have hlt := (List.getElem?_eq_some_iff.1 hi.1).1
      have := h2 i (by omega)
      rw [(hocc i).2 hi] at this; cases this
  · rw [h1]
    constructor
    · intro _; exact ⟨i, (hocc i).1 h3⟩
    · intro _; simp
def oddN (x : Nat) : Bool := decide (x < 33) || decide (126 < x)
theorem oddN_eq (x : Nat) : EV Tryz.prog H (fun _ => none) 72 [.int .i32 x] [] = some (.bool (oddN x), []) := by
  refine EV_post rfl Tryz.func72 rfl (by simp [Tryz.ntmps72]) (by kernel_rfl) (by kernel_rfl) ?_
  have c1 : decide ((x : Int) < 33) = decide (x < 33) := by rw [decide_eq_decide]; omega
  have c2 : decide ((126 : Int) < x) = decide (126 < x) := by rw [decide_eq_decide]; omega
  by_cases h1 : x < 33
  · simp (maxSteps := 4000000) [List.getElem?_cons_zero, List.getElem?_cons_succ, c1, h1, oddN, Tryz.results72]
  · by_cases h2 : 126 < x
    · simp (maxSteps := 4000000) [List.getElem?_cons_zero, List.getElem?_cons_succ, c1, c2, h1, h2, oddN, Tryz.results72]
    · simp (maxSteps := 4000000) [List.getElem?_cons_zero, List.getElem?_cons_succ, c1, c2, h1, h2, oddN, Tryz.results72]
theorem Patterns_eq (s : List UInt8) (hs : s.length ≤ 2 ^ 29) (σ : List (List AV)) : ev 32 [.str s] σ = some (.tup [.sl .sh ((patP s).1.map .str), .int .i64 (patP s).2], σ) := by
  have hC := Split1_eq s (by omega) 44
  have hm := splitB_many 44 s
  have hmem := fun x (hx : x ∈ splitB 44 s) => splitB_le hx
  have w1 : ∀ n : Nat, n ≤ 2 ^ 30 → IntKind.i64.wrap ((n : Int) + 1) = (n : Int) + 1 := fun n h => wrap64 (by omega)
  refine EV_post rfl Tryz.func32 rfl (by simp [Tryz.ntmps32]) (by kernel_rfl) (by kernel_rfl) ?_
  by_cases c2 : s = []
  · have hP : patP s = ([], 0) := by unfold patP; rw [if_pos c2]
    have c2' : (s == []) = true := by simpa using c2
    simp (maxSteps := 4000000) [List.getElem?_cons_zero, List.getElem?_cons_succ, c2', hP, Tryz.results32]
  have c2' : (s == []) = false := by simpa using c2
  by_cases c1 : 1000 < s.length
  · have hP : patP s = ([], 13) := by unfold patP; rw [if_neg c2, if_pos c1]
    simp (maxSteps := 4000000) [List.getElem?_cons_zero, List.getElem?_cons_succ, c1, c2', hP, Tryz.results32]
  have hP : patP s = if (splitB 44 s).any badP then ([], 15) else if 20 < (splitB 44 s).length then ([], 14) else (splitB 44 s, 0) := by unfold patP; rw [if_neg c2, if_neg c1]
  obtain ⟨L, hL⟩ : ∃ L, splitB 44 s = L := ⟨_, rfl⟩
  rw [hL] at hC hm hmem hP
  simp (maxSteps := 4000000) [List.getElem?_cons_zero, List.getElem?_cons_succ, c1, c2', hC]
  refine Post_loop (I := fun i : Nat => ⟨[(4, .sl (.ex 9 1) (L.map .str)), (15, .sl .sh (L.map .str)), (16, .int .i64 L.length), (17, .int .i64 i)], [], σ⟩) (Pr := fun i => i ≤ L.length ∧ (L.take i).any badP = false) (μ := fun i => L.length - i) (a := 0) (by simp) (by simp) ?_
  rintro i ⟨hi, hn⟩
  have w1i := w1 i (by omega)
  by_cases hc : i < L.length
  · obtain ⟨p, hx⟩ : ∃ p, L[i]? = some p := ⟨_, List.getElem?_eq_getElem hc⟩
    have hpl := hmem p (List.mem_of_getElem? hx)
    have hin := any_take_succ hx hn
    have hbad : badP p = true → patP s = ([], 15) := fun h => by rw [hP, if_pos (List.any_eq_true.2 ⟨p, List.mem_of_getElem? hx, h⟩)]
    have hB := badP_eq p
    have hF := fun σ => ContainsFunc_any 72 (by decide) oddN (fun x => ⟨_, oddN_eq x⟩) (fun x hx => by unfold oddN; simp; omega) p σ
    have hodd : (p.any fun b => oddN b.toNat) = p.any oddP := rfl
    rw [hodd] at hF
    obtain ⟨od, hod⟩ : ∃ od, p.any oddP = od := ⟨_, rfl⟩
    rw [hod] at hF hB
    by_cases p0 : p = []
    · have p0' : (p == []) = true := by simpa using p0
      have hR := hbad (hB.2 (.inl (.inl p0)))
      simp (maxSteps := 4000000) [List.getElem?_cons_zero, List.getElem?_cons_succ, -getElem?_pos, hc, hx, hF, p0', hR, Tryz.results32]
    have p0' : (p == []) = false := by simpa using p0
    have pl0 : 0 < p.length := List.length_pos_iff.2 p0
    obtain ⟨c0, hc0⟩ : ∃ c, p[0]? = some c := ⟨_, List.getElem?_eq_getElem pl0⟩
    obtain ⟨cl, hcl⟩ : ∃ c, p[p.length - 1]? = some c := ⟨_, List.getElem?_eq_getElem (by omega)⟩
    by_cases p1 : c0 = 47
    · have hR := hbad (hB.2 (.inl (.inr (.inl (by rw [hc0, p1])))))
      simp (maxSteps := 4000000) [List.getElem?_cons_zero, List.getElem?_cons_succ, -getElem?_pos, hc, hx, hF, p0', pl0, hc0, p1, hR, Tryz.results32]
    have wl : IntKind.i64.wrap ((p.length : Int) - 1) = ((p.length - 1 : Nat) : Int) := by rw [wrap64 (by omega)]; omega
    obtain ⟨pn, hpn⟩ : ∃ n, p.length - 1 = n := ⟨_, rfl⟩
    rw [hpn] at wl hcl hB
    by_cases p2 : cl = 47
    · have hR := hbad (hB.2 (.inl (.inr (.inr (.inl ⟨pl0, by rw [hcl, p2]⟩)))))
      simp (maxSteps := 4000000) [List.getElem?_cons_zero, List.getElem?_cons_succ, -getElem?_pos, hc, hx, hF, p0', pl0, hc0, p1, wl, hcl, p2, hR, Tryz.results32]
    have hD : ∀ σ, ev 73 [.str p, .str [47, 47]] σ = some (.bool (Lib.contains p [47, 47]), σ) := fun σ => by
      rw [ev_Contains]
      simp only [containsT]
      rw [need_of (by omega)]
    have hdb := contains_dbl p
    obtain ⟨db, hdbe⟩ : ∃ b, Lib.contains p [47, 47] = b := ⟨_, rfl⟩
    rw [hdbe] at hD hdb
    cases db with
    | true =>
      have hR := hbad (hB.2 (.inl (.inr (.inr (.inr (hdb.1 rfl))))))
      simp (maxSteps := 4000000) [List.getElem?_cons_zero, List.getElem?_cons_succ, -getElem?_pos, hc, hx, hF, p0', pl0, hc0, p1, wl, hcl, p2, hD, hR, Tryz.results32]
    | false =>
      cases od with
      | true =>
        have hR := hbad (hB.2 (.inr rfl))
        simp (maxSteps := 4000000) [List.getElem?_cons_zero, List.getElem?_cons_succ, -getElem?_pos, hc, hx, hF, p0', pl0, hc0, p1, wl, hcl, p2, hD, hR, Tryz.results32]
      | false =>
        have hok : badP p = false := by
          rw [Bool.eq_false_iff, Ne, hB]
          rintro ((h | h | ⟨_, h⟩ | h) | h)
          · exact p0 h
          · rw [hc0] at h; injection h with h; exact p1 h
          · rw [hcl] at h; injection h with h; exact p2 h
          · have := hdb.2 h; cases this
          · cases h
        rw [hok] at hin
        simp (maxSteps := 4000000) [List.getElem?_cons_zero, List.getElem?_cons_succ, -getElem?_pos, hc, hx, hF, p0', pl0, hc0, p1, wl, hcl, p2, hD, w1i]
        exact ⟨i + 1, ⟨by omega, by simpa using hin⟩, by omega, by simp⟩
  · rw [List.take_of_length_le (by omega)] at hn
    rw [hn, if_neg (by simp)] at hP
    by_cases h20 : 20 < L.length
    · rw [if_pos h20] at hP
      simp (maxSteps := 4000000) [List.getElem?_cons_zero, List.getElem?_cons_succ, hc, h20, hP, Tryz.results32]
    · rw [if_neg h20] at hP
      simp (maxSteps := 4000000) [List.getElem?_cons_zero, List.getElem?_cons_succ, hc, h20, hP, Tryz.results32]
end Go.Proofs.Tryz.Ai
end
section
/- SumfileMatches: the evaluation. -/
namespace Go.Proofs.Tryz.Ai
open Go Go.AI Go.Proofs Go.B64
set_option maxHeartbeats 8000000
set_option maxRecDepth 4000
set_option linter.unusedVariables false

theorem matchesLaw0 (list pattern s : List UInt8) (l : List (List UInt8)) (σ : List (List AV)) : ev 7 [.str list, .str pattern, .str s, .sl .sh (l.map .str)] σ = some (.bool true, σ) := by
  have hF := first_eq
  refine EV_post rfl Tryz.func7 rfl (by simp [Tryz.ntmps7]) (by kernel_rfl) (by kernel_rfl) ?_
  by_cases c1 : 1200 < list.length
  · simp (maxSteps := 4000000) [List.getElem?_cons_zero, List.getElem?_cons_succ, hF, c1, Tryz.results7]
  by_cases c2 : 1000 < pattern.length
  · simp (maxSteps := 4000000) [List.getElem?_cons_zero, List.getElem?_cons_succ, hF, c1, c2, Tryz.results7]
  by_cases c3 : 1000 < s.length
  · simp (maxSteps := 4000000) [List.getElem?_cons_zero, List.getElem?_cons_succ, hF, c1, c2, c3, Tryz.results7]
  by_cases c4 : 30 < l.length
  · simp (maxSteps := 4000000) [List.getElem?_cons_zero, List.getElem?_cons_succ, hF, c1, c2, c3, c4, Tryz.results7]
  simp (maxSteps := 4000000) [List.getElem?_cons_zero, List.getElem?_cons_succ, hF, c1, c2, c3, c4]
  refine Post_loop (I := fun i : Nat => ⟨[(0, .str list), (1, .str pattern), (2, .str s), (3, .sl .sh (l.map .str)), (10, .int .i64 i)], [], σ⟩) (Pr := fun i => i ≤ l.length ∧ ∀ p ∈ l.take i, p.length ≤ 200) (μ := fun i => l.length - i) (a := 0) (by simp) (by simp) ?_
  rintro i ⟨hi, h2⟩
  have w1 : IntKind.i64.wrap ((i : Int) + 1) = (i : Int) + 1 := wrap64 (by omega)
  by_cases hc : i < l.length
  · obtain ⟨x, hx⟩ : ∃ x, l[i]? = some x := ⟨_, List.getElem?_eq_getElem hc⟩
    by_cases c5 : 200 < x.length
    · simp (maxSteps := 4000000) [List.getElem?_cons_zero, List.getElem?_cons_succ, -getElem?_pos, hc, hx, c5, Tryz.results7]
    · simp (maxSteps := 4000000) [List.getElem?_cons_zero, List.getElem?_cons_succ, -getElem?_pos, hc, hx, c5, w1]
      refine ⟨i + 1, ⟨by omega, fun p hp => ?_⟩, by omega, by simp⟩
      rw [List.take_add_one, hx] at hp
      rcases List.mem_append.1 hp with hp | hp
      · exact h2 p hp
      · simp at hp; subst hp; omega
  · rw [List.take_of_length_le (by omega)] at h2
    have hP1 := Patterns_eq list (by omega)
    have hP2 := rPatterns_eq list (by omega)
    have hG1 := Glob_eq pattern s (by omega) (by omega)
    have hG2 := rGlob_eq pattern s (by omega) (by omega)
    have hM1 := Match_eq l (by omega) (fun p hp => by have := h2 p hp; omega) s (by omega)
    have hM2 := rMatch_eq l (by omega) (fun p hp => by have := h2 p hp; omega) s (by omega)
    have hpl : (patP list).1.length ≤ 2 ^ 30 := by
      unfold patP
      have := splitB_many 44 list
      split
      · simp
      · split
        · simp
        · split
          · simp
          · split
            · simp
            · simp only; omega
    have hS := SameTexts_eq (patP list).1 (patP list).1 (by omega)
    have hN := fun e => Num_eq e
    obtain ⟨A, hA⟩ : ∃ A, (patP list).1 = A := ⟨_, rfl⟩
    obtain ⟨E, hE⟩ : ∃ E, (patP list).2 = E := ⟨_, rfl⟩
    rw [hA, hE] at hP1 hP2
    rw [hA] at hS
    have hAA : decide (A = A) = true := by simp
    rw [hAA] at hS
    obtain ⟨g, hg⟩ : ∃ g, globB pattern s = g := ⟨_, rfl⟩
    obtain ⟨m, hm⟩ : ∃ m, l.any (matchP (splitB 47 s)) = m := ⟨_, rfl⟩
    rw [hg] at hG1 hG2
    rw [hm] at hM1 hM2
    have e1 : (g == g) = true := by simp
    have e2 : (m == m) = true := by simp
    simp (maxSteps := 4000000) [List.getElem?_cons_zero, List.getElem?_cons_succ, hc, hP1, hP2, hG1, hG2, hM1, hM2, hS, hN, e1, e2, Tryz.results7]
end Go.Proofs.Tryz.Ai
end
section
/- The frame of SumfileMatches: from the evaluation to the given statement. -/

namespace Go.Proofs.YtoofpdaplnjmdaaGreatDoor.sumfileMatches
open Go Go.AI Go.ChangeShapes Go.WideShapes Go.ChangeAt Go.RowKit
set_option linter.unusedVariables false

theorem own : ownKnob Tryz.prog.godebug = none := by kernel_rfl
theorem mixed : Tryz.prog.follows .mixedOrders = true := by kernel_rfl
theorem laidOut : laidOutB Tryz.prog = true := by kernel_rfl

theorem walk (a0 : List UInt8) (a1 : List UInt8) (a2 : List UInt8) (a3 : List (List UInt8)) (v0 v1 v2 v3 : Value) (W : World) (hl : Go.Proofs.Tryz.Ai.LaidAll W) (r0 : Rep W.heap.size gh0 W v0 (.str a0)) (r1 : Rep W.heap.size gh0 W v1 (.str a1)) (r2 : Rep W.heap.size gh0 W v2 (.str a2)) (r3 : Rep W.heap.size gh0 W v3 (.sl .sh (a3.map .str)))
    (he : Go.Proofs.Tryz.Ai.ev 7 [.str a0, .str a1, .str a2, .sl .sh (a3.map .str)] [] = some (.bool true, [])) :
    Calls Tryz.prog 7 #[v0, v1, v2, v3] W fun e w' => e = .returned (.bool true) ∧ Below W.heap.size W w' :=
  Go.AI.top (s' := []) mixed rfl (Go.Proofs.Tryz.Ai.T_ok hl) (by rfl)
    (fun j c h => by
      match j, h with
      | 0, h => simp at h; subst h; exact ⟨r0, rfl, rfl⟩
      | 1, h => simp at h; subst h; exact ⟨r1, rfl, rfl⟩
      | 2, h => simp at h; subst h; exact ⟨r2, rfl, rfl⟩
      | 3, h => simp at h; subst h; exact ⟨r3, rfl, rfl⟩
      | j + 4, h => simp at h)
    he

/-- the table of powers, as the row lays it -/
theorem laid_of {W : World} (hL : laidMet Tryz.prog Rows.sumfileMatchesRow.laid W) : Go.Proofs.Tryz.Ai.Laid W :=
  tabIs_of_mem (g := 5) (t := 260) (e := 226) (n := 20) (by
    have : ("internal/strconv.uint64pow10", Rows.laid_internal_strconv_uint64pow10) ∈ Rows.sumfileMatchesRow.laid := by simp [Rows.sumfileMatchesRow]
    have e : (Rows.laid_internal_strconv_uint64pow10 : DataW Unit) = Lib.tabData .u64 Lib.pow10Tab := by kernel_rfl
    rw [e] at this; exact this) (by kernel_rfl) (by kernel_rfl) Tryz.underlying260 Tryz.underlying226 (by kernel_rfl) (by kernel_rfl) hL

/-- what a row lays, and what each world has -/
theorem all_of {W : World} (hL : laidMet Tryz.prog Rows.sumfileMatchesRow.laid W) (hsh : W.ShapedOpen Tryz.prog) : Go.Proofs.Tryz.Ai.LaidAll W where
  tab := laid_of hL
  max := Go.Proofs.Tryz.Ai.maxLen_of hsh
  esyn := Go.Proofs.Tryz.Ai.errAt_of (g := 3) (Go.Proofs.Tryz.Ai.laidMet_drop 5 hL) (by kernel_rfl) (by kernel_rfl)
  eran := Go.Proofs.Tryz.Ai.errAt_of (g := 4) (Go.Proofs.Tryz.Ai.laidMet_drop 4 hL) (by kernel_rfl) (by kernel_rfl)

theorem readable : ∀ t ∈ Tryz.f7.params.toList, Tryz.prog.readableRec t = true ∧ t < Tryz.prog.types.size := by
  rw [Tryz.params7]
  intro t ht
  simp only [List.mem_cons, List.mem_nil_iff, or_false] at ht
  rcases ht with rfl | rfl | rfl | rfl <;> exact ⟨by kernel_rfl, of_decide_eq_true (by kernel_rfl)⟩

set_option maxRecDepth 100000 in
theorem contract (H : Type) (enc : TypeId × Value → H) (W : World) (base : Nat) (args : Array Value) (ds gs : List (DataW H)) (before : List MemPlace)
    (hval : ∀ (j : Nat) t v, Tryz.f7.params[j]? = some t → args[j]? = some v → Value.okWide Tryz.prog W .any base t v)
    (hW : DataW.Whole enc Tryz.prog Tryz.f7.params.toList Rows.sumfileMatchesSpec.vars false W args.toList ds gs before) (hl : Go.Proofs.Tryz.Ai.LaidAll W) :
    Calls Tryz.prog 7 args W fun e W' => ∃ v, e = .returned v ∧ Rows.sumfileMatchesSpec.post enc Tryz.prog Tryz.f7 false true false false W args v W' := by
  have hW' := hW
  obtain ⟨p, q, hA0, hV, rfl, hfz, hnd⟩ := hW
  have hA : DataW.TrodAll enc Tryz.prog W 0 (fun _ => true) true Tryz.f7.params.toList args.toList ds p := hA0
  have hAk := hA
  rw [Tryz.params7] at hA hval
  obtain ⟨v0, vs0, d0, ds0, p0, q0, hargs0, rfl, rfl, h0, r0⟩ := trodAll_cons hA
  obtain ⟨v1, vs1, d1, ds1, p1, q1, hargs1, rfl, rfl, h1, r1⟩ := trodAll_cons r0
  obtain ⟨v2, vs2, d2, ds2, p2, q2, hargs2, rfl, rfl, h2, r2⟩ := trodAll_cons r1
  obtain ⟨v3, vs3, d3, ds3, p3, q3, hargs3, rfl, rfl, h3, r3⟩ := trodAll_cons r2
  obtain ⟨e1, e2, e3⟩ := trodAll_nil r3
  obtain rfl : args = #[v0, v1, v2, v3] := by cases args; simp_all
  subst e2 e3
  obtain ⟨rfl, rfl⟩ := trodVars_none hV
  obtain ⟨a0, Q0, R0, _⟩ := (Reads.str Tryz.underlying9 (by kernel_rfl)).arg1 (enc := enc) (W := W) (fun _ => rfl) (by kernel_rfl) (hval 0 9 v0 rfl rfl) h0
  obtain ⟨a1, Q1, R1, _⟩ := (Reads.str Tryz.underlying9 (by kernel_rfl)).arg1 (enc := enc) (W := W) (fun _ => rfl) (by kernel_rfl) (hval 1 9 v1 rfl rfl) h1
  obtain ⟨a2, Q2, R2, _⟩ := (Reads.str Tryz.underlying9 (by kernel_rfl)).arg1 (enc := enc) (W := W) (fun _ => rfl) (by kernel_rfl) (hval 2 9 v2 rfl rfl) h2
  obtain ⟨a3, Q3, R3, _⟩ := (Reads.slice (Reads.str Tryz.underlying9 (by kernel_rfl)) Tryz.underlying56 (by kernel_rfl)).arg1 (enc := enc) (W := W) (fun _ => rfl) (by kernel_rfl) (hval 3 56 v3 rfl rfl) h3
  have hlt : ∀ x ∈ (p0 ++ p1 ++ p2 ++ p3 : List MemPlace), True := fun _ _ => trivial
  refine (walk a0 a1 a2 a3 v0 v1 v2 v3 W hl R0 R1 R2 R3 (by have := Go.Proofs.Tryz.Ai.matchesLaw0 a0 a1 a2 a3  []; exact this)).mono fun e W' ⟨he, bel⟩ => ?_
  subst he
  exact ⟨_, rfl, _, _, _, [], _, [], hW', trodAll_mk1 (shut_bool Tryz.underlying4 _), trodAll_keep laidOut bel readable hAk (fun x hx => by simpa using hW'.lt x (by simpa using hx)), rfl, bel.frame _, fun h => by cases h⟩

noncomputable def laidWorld (os : Os) : World := World.laidAll Tryz.prog os Rows.sumfileMatchesRow.laid
theorem laid_met (os : Os) : laidMet Tryz.prog Rows.sumfileMatchesRow.laid ((laidWorld os).forCall (fun _ _ => 0) ⟨#[], #[.string ⟨#[]⟩, .string ⟨#[]⟩, .string ⟨#[]⟩, .slice none 0 0], []⟩).memory :=
  laidMet_laidAll _ (by kernel_rfl) (by kernel_rfl)
theorem reads (os : Os) {H : Type} (enc : TypeId × Value → H) : ∃ places, DataW.whole enc Tryz.prog ((laidWorld os).forCall (fun _ _ => 0) ⟨#[], #[.string ⟨#[]⟩, .string ⟨#[]⟩, .string ⟨#[]⟩, .slice none 0 0], []⟩).memory Tryz.f7.params.toList Rows.sumfileMatchesSpec.vars false (#[.string ⟨#[]⟩, .string ⟨#[]⟩, .string ⟨#[]⟩, .slice none 0 0] : Array Value).toList 8 = some ([.lit (.string []), .lit (.string []), .lit (.string []), .nil], [], places) :=
  ⟨[], by kernel_rfl⟩
theorem witness (os : Os) {H : Type} (enc : TypeId × Value → H) : ∃ (w : World) (tape : Tape) (i : Input), w.os = os ∧ (w.forCall tape i).Shaped Tryz.checked.prog ∧ i.vars = [] ∧ Input.okWide Tryz.checked.prog (w.forCall tape i) .any w.heap.size 7 i ∧
    (OpenSpec.ofChange Rows.sumfileMatchesSpec).preRow enc Tryz.checked.prog Tryz.f7 Rows.sumfileMatchesRow.domain false Rows.sumfileMatchesRow.laid (w.forCall tape i).memory i.args ∧ ({} : Assume).holds Tryz.checked.prog (lone (Frame.enter Tryz.checked.prog 7 i.args .normal) [] (w.forCall tape i)) := by
  obtain ⟨places, hx⟩ := reads os enc
  have hok : Input.okWideB Tryz.checked.prog ((laidWorld os).forCall (fun _ _ => 0) ⟨#[], #[.string ⟨#[]⟩, .string ⟨#[]⟩, .string ⟨#[]⟩, .slice none 0 0], []⟩) 7 ⟨#[], #[.string ⟨#[]⟩, .string ⟨#[]⟩, .string ⟨#[]⟩, .slice none 0 0], []⟩ = true := by kernel_rfl
  exact ⟨laidWorld os, fun _ _ => 0, ⟨#[], #[.string ⟨#[]⟩, .string ⟨#[]⟩, .string ⟨#[]⟩, .slice none 0 0], []⟩, World.laidAll_os _ _ _, World.shaped_of_ZipB (by kernel_rfl) (by kernel_rfl), (Input.okWide_of_okWideB (base := 0) hok).1, (Input.okWide_of_okWideB hok).2,
    OpenSpec.preRow_of_cond 8 hx (by kernel_rfl) (fun k hk => by cases hk) (by kernel_rfl) (laid_met os), by
    simp only [Assume.holds]
    exact ⟨by simp, by simp, fun _ => Modest.zero, by simp, by simp⟩⟩

set_option maxRecDepth 100000 in
theorem lifted (os : Os) (started : os.Started) (H : Type) (enc : TypeId × Value → H) (F : Stop.Interp) :
    ReturnsInHanded {} Tryz.checked os 7 .any ((OpenSpec.ofChange Rows.sumfileMatchesSpec).preRow enc Tryz.prog Tryz.f7 Rows.sumfileMatchesRow.domain false Rows.sumfileMatchesRow.laid) (((OpenSpec.ofChange Rows.sumfileMatchesSpec).at F).post enc Tryz.prog Tryz.f7 false true false false) := by
  refine returnsInHanded_of_row (C := Tryz.checked) (s := (OpenSpec.ofChange Rows.sumfileMatchesSpec)) own started (by kernel_rfl) Tryz.func7 (witness os enc) ?_
  intro W base args ds gs before hval hW _ hcond _ hL hsh _
  exact contract H enc W base args ds gs before hval hW (all_of (by rw [← MakeChecks.laidMetH_plain _ _ _ (by kernel_rfl)]; exact hL) hsh)

theorem said : Rows.SumfileMatchesSaid :=
  OpenClaim.holds_of_cond 7 Tryz.f7 rfl rfl rfl rfl rfl rfl rfl ⟨rfl, rfl, rfl, rfl, rfl⟩ rfl rfl rfl rfl rfl (by kernel_rfl) Tryz.func7 (by kernel_rfl)
    (of_decide_eq_true (by kernel_rfl)) (by unfold Func.isWrapper; first | (rw [if_pos (by decide +kernel)]; kernel_rfl) | (rw [if_neg (by decide +kernel)]; exact ⟨rfl, rfl⟩))
    (fun os started H enc _ F => by rw [OpenClaim.pre_eq_preRow]; exact lifted os started H enc F)

theorem plain (f : FuncId) (fn : Func) (hf : Tryz.pinned.checked.prog.funcNamed "mews/mewslaw5.SumfileMatches" = some f) (hfn : Tryz.pinned.checked.prog.funcs[f]? = some fn) :
    true = Tryz.pinned.checked.prog.looks [] ∧ ∀ (j : Nat) t, fn.params[j]? = some t → Tryz.pinned.checked.prog.wantsStandIn t = false := by
  obtain rfl : f = 7 := Option.some.inj ((show Tryz.prog.funcNamed "mews/mewslaw5.SumfileMatches" = some 7 by kernel_rfl).symm.trans hf) |>.symm
  obtain rfl : fn = Tryz.f7 := (Option.some.inj (Tryz.func7.symm.trans hfn)).symm
  refine ⟨by kernel_rfl, fun j t ht => ?_⟩
  have hm : t ∈ Tryz.f7.params.toList := Array.mem_toList_iff.2 (Array.mem_of_getElem? ht)
  rw [Tryz.params7] at hm
  simp only [List.mem_cons, List.mem_nil_iff, or_false] at hm
  rcases hm with rfl | rfl | rfl | rfl
  · exact (show Tryz.prog.wantsStandIn 9 = false by kernel_rfl)
  · exact (show Tryz.prog.wantsStandIn 9 = false by kernel_rfl)
  · exact (show Tryz.prog.wantsStandIn 9 = false by kernel_rfl)
  · exact (show Tryz.prog.wantsStandIn 56 = false by kernel_rfl)

/-- the card -/
theorem card : Rows.SumfileMatchesCardSaid :=
  Claim7.holds_tied_plain_at .later [] _ _ _ _ said (fun _ h => by cases h) (by kernel_rfl) (fun _ h => by cases h) sumfileMatches_row_tie rfl ⟨rfl, rfl⟩ (by kernel_rfl) rfl plain (by kernel_rfl)
end Go.Proofs.YtoofpdaplnjmdaaGreatDoor.sumfileMatches
end
