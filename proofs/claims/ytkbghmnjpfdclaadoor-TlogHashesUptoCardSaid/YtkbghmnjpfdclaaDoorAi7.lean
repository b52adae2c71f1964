/- Part 7 of a proof: a Go function is evaluated on abstract values (texts TL18 .. FHashes); no conditions beyond those of each theorem. -/
import Derived.Test.YtkbghmnjpfdclaaDoorAi6
import Derived.OpenShut
import Derived.Carry
import Derived.Deep.Slices
import Derived.ChangeOld
import Derived.Lib.LaidTab
import Derived.ChangeSame
import Derived.Deep.Strs
import Derived.Lib.SmallJoins
import Derived.Test.YtkbghmnjpfdclaaDoorRows
import Derived.Test.YtkbghmnjpfdclaaDoorCards
import Derived.Test.YtkbghmnjpfdclaaDoorTie
import Derived.WalkKit
import Derived.ProofKit
import Derived.Below
import Derived.Deep.DeepHandedRow
import Derived.Lay
import Derived.MakeChecks
set_option linter.all false
set_option linter.unusedVariables false
set_option linter.unusedSimpArgs false
set_option linter.unnecessarySimpa false
section
/- The document's places of stored hashes. -/
namespace Go.Proofs.Tryd.Ai
open Go Go.AI Go.Proofs
set_option maxHeartbeats 1000000
set_option linter.unusedVariables false

theorem Power_eq (n : Nat) (h : n ≤ 40) (σ) : ev 19 [.int .i64 n] σ = some (.int .i64 ((2 ^ n : Nat) : Int), σ) := by
  refine EV_post rfl Tryd.func19 rfl (by simp [Tryd.ntmps19]) (by kernel_rfl) (by kernel_rfl) ?_
  simp (maxSteps := 4000000) [List.getElem?_cons_zero, List.getElem?_cons_succ, ]
  refine Post_loop (I := fun x : Nat × Nat => ⟨[(0, .int .i64 n), (3, .int .i64 x.2), (4, .int .i64 x.1)], [], σ⟩) (Pr := fun x => x.1 ≤ n ∧ x.2 = 2 ^ x.1) (μ := fun x => n - x.1) (a := (0, 1)) (by simp) (by simp) ?_
  rintro ⟨i, p⟩ ⟨hi, hp⟩
  simp only at hi hp ⊢
  by_cases hc : i < n
  · have h1 : p ≤ 2 ^ 40 := by rw [hp]; exact Nat.pow_le_pow_right (by omega) (by omega)
    have w1 : IntKind.i64.wrap (2 * (p : Int)) = ((2 * p : Nat) : Int) := by rw [wrap64 (by omega)]; omega
    have w2 : IntKind.i64.wrap ((i : Int) + 1) = (i : Int) + 1 := wrap64 (by omega)
    obtain ⟨q, hq⟩ : ∃ q, 2 * p = q := ⟨_, rfl⟩
    rw [hq] at w1
    simp (maxSteps := 4000000) [List.getElem?_cons_zero, List.getElem?_cons_succ, hc, w1, w2]
    exact ⟨i + 1, q, ⟨by omega, by rw [Nat.pow_succ, ← hp]; omega⟩, by omega, rfl, by simp⟩
  · have : i = n := by omega
    subst this
    have hp2 : (2 : Int) ^ i = (p : Int) := by rw [hp]; simp
    simp (maxSteps := 4000000) [List.getElem?_cons_zero, List.getElem?_cons_succ, hc, hp2, Tryd.results19]
theorem There_eq (m : Nat) (hm : m ≤ 1048576) (level k : Int) (σ) : ev 18 [.int .i64 level, .int .i64 k, .int .i64 m] σ = some (.bool (inP m level k), σ) := by
  have hno : ¬ (0 ≤ level ∧ level ≤ 20 ∧ 0 ≤ k ∧ k ≤ 1048576) → inP m level k = false := by
    intro h
    cases hc : inP m level k with
    | false => rfl
    | true =>
      obtain ⟨l, i, rfl, rfl, h1, h2⟩ := inP_nat (Int.natCast_nonneg m) hc
      have : i + 1 ≤ (i + 1) * 2 ^ l := Nat.le_mul_of_pos_right _ (Nat.two_pow_pos _)
      simp at h2
      omega
  refine EV_post rfl Tryd.func18 rfl (by simp [Tryd.ntmps18]) (by kernel_rfl) (by kernel_rfl) ?_
  by_cases h1 : 0 ≤ level
  · by_cases h2 : level ≤ 20
    · by_cases h3 : 0 ≤ k
      · by_cases h4 : k ≤ 1048576
        · obtain ⟨l, rfl⟩ := Int.eq_ofNat_of_zero_le h1
          obtain ⟨i, rfl⟩ := Int.eq_ofNat_of_zero_le h3
          have hP := Power_eq l (by omega)
          have h5 : 2 ^ l ≤ 2 ^ 20 := Nat.pow_le_pow_right (by omega) (by omega)
          have hpm : (i + 1) * 2 ^ l ≤ 1048577 * 2 ^ 20 := Nat.mul_le_mul (by omega) h5
          have hb : inP m l i = decide ((i + 1) * 2 ^ l ≤ m) := by
            cases hc : inP m l i with
            | true =>
              obtain ⟨l', i', e1, e2, _, h2'⟩ := inP_nat (Int.natCast_nonneg m) hc
              have : l' = l := by omega
              subst this
              have : i' = i := by omega
              subst this
              simp only [Int.toNat_natCast] at h2'
              exact (decide_eq_true h2').symm
            | false =>
              symm
              rw [decide_eq_false_iff_not]
              intro h
              have := inP_of (m := m) (l := l) (i := i) (by omega) h
              rw [this] at hc; cases hc
          obtain ⟨P, hPd⟩ : ∃ P, 2 ^ l = P := ⟨_, rfl⟩
          rw [hPd] at hP hpm hb
          obtain ⟨Q, hQ⟩ : ∃ Q, (i + 1) * P = Q := ⟨_, rfl⟩
          have w1 : IntKind.i64.wrap ((i : Int) + 1) = (i : Int) + 1 := wrap64 (by omega)
          have w2 : IntKind.i64.wrap (((i : Int) + 1) * P) = (Q : Int) := by
            rw [show ((i : Int) + 1) * P = (((i + 1) * P : Nat) : Int) by simp, hQ]; exact wrap64 (by omega)
          rw [hQ] at hb
          by_cases h6 : Q ≤ m
          · have h7 : decide (Q ≤ m) = true := decide_eq_true h6
            simp (maxSteps := 4000000) [List.getElem?_cons_zero, List.getElem?_cons_succ, h1, h2, h4, hP, w1, w2, hb, h6, Tryd.results18]
          · have h7 : decide (Q ≤ m) = false := decide_eq_false h6
            simp (maxSteps := 4000000) [List.getElem?_cons_zero, List.getElem?_cons_succ, h1, h2, h4, hP, w1, w2, hb, h6, Tryd.results18]
        · have := hno (by omega)
          simp (maxSteps := 4000000) [List.getElem?_cons_zero, List.getElem?_cons_succ, h1, h2, h3, h4, this, Tryd.results18]
      · have := hno (by omega)
        simp (maxSteps := 4000000) [List.getElem?_cons_zero, List.getElem?_cons_succ, h1, h2, h3, this, Tryd.results18]
    · have := hno (by omega)
      simp (maxSteps := 4000000) [List.getElem?_cons_zero, List.getElem?_cons_succ, h1, h2, this, Tryd.results18]
  · have := hno (by omega)
    simp (maxSteps := 4000000) [List.getElem?_cons_zero, List.getElem?_cons_succ, h1, this, Tryd.results18]
theorem rstored_eq (n : Nat) (hn : n ≤ 2 ^ 40) (σ) : ev 60 [.int .i64 n] σ = some (.int .i64 (storedN n), σ) := by
  refine EV_post rfl Tryd.func60 rfl (by simp [Tryd.ntmps60]) (by kernel_rfl) (by kernel_rfl) ?_
  simp
  refine Post_loop (I := fun x : Nat × Nat => ⟨[(0, .int .i64 x.1), (3, .int .i64 x.2)], [], σ⟩) (Pr := fun x => x.1 ≤ 2^40 ∧ x.2 ≤ 2^50 ∧ x.2 + storedN x.1 = storedN n) (μ := fun x => x.1) (a := (n, 0)) (by simp) (by simp; omega) ?_
  rintro ⟨a, s⟩ ⟨ha, hs, hr⟩
  simp only at ha hs hr
  have := storedN_le n
  by_cases hc : 0 < a
  · rw [storedN_step a (by omega) (by omega)] at hr
    have c1 : 0 < (a : Int) := by omega
    have c2 : ((a : Int).tdiv 2) = ((a / 2 : Nat) : Int) := by rw [Int.tdiv_eq_ediv_of_nonneg (by omega)]; omega
    simp (maxSteps := 4000000) (disch := omega) [dT, dF, wrap64, c2, hc]
    refine ⟨a / 2, s + a, ⟨by omega, by omega, by omega⟩, by omega, by simp⟩
  · have c1 : a = 0 := by omega
    subst c1
    rw [storedN_zero] at hr
    simp (maxSteps := 4000000) (disch := omega) [dT, dF, wrap64, Tryd.results60, hr]
    omega
theorem rIndex_no (level k : Int) (h : inP 1048576 level k = false) (σ) : ev 22 [.int .i64 level, .int .i64 k] σ = some (.tup [.int .i64 0, .int .i64 6], σ) := by
  have hT := There_eq 1048576 (by omega) level k
  have h' : inP ((1048576 : Nat) : Int) level k = false := h
  rw [h'] at hT
  have hT' : ∀ σ, ev 18 [.int .i64 level, .int .i64 k, .int .i64 1048576] σ = some (.bool false, σ) := hT
  refine EV_post rfl Tryd.func22 rfl (by simp [Tryd.ntmps22]) (by kernel_rfl) (by kernel_rfl) ?_
  simp (maxSteps := 4000000) [List.getElem?_cons_zero, List.getElem?_cons_succ, hT', Tryd.results22]
theorem rIndex_yes (l i : Nat) (hl : l ≤ 20) (h : (i + 1) * 2 ^ l ≤ 1048576) (σ) : ev 22 [.int .i64 l, .int .i64 i] σ = some (.tup [.int .i64 (indexN l i), .int .i64 0], σ) := by
  have hT := There_eq 1048576 (by omega) l i
  have h' : inP ((1048576 : Nat) : Int) l i = true := inP_of hl h
  rw [h'] at hT
  have hT' : ∀ σ, ev 18 [.int .i64 l, .int .i64 i, .int .i64 1048576] σ = some (.bool true, σ) := hT
  have hP := Power_eq l (by omega)
  have hp : 0 < 2 ^ l := Nat.two_pow_pos _
  have hi : i + 1 ≤ (i + 1) * 2 ^ l := Nat.le_mul_of_pos_right _ hp
  unfold indexN
  obtain ⟨P, hPd⟩ : ∃ P, 2 ^ l = P := ⟨_, rfl⟩
  rw [hPd] at hP h hi ⊢
  obtain ⟨Q, hQ⟩ : ∃ Q, (i + 1) * P = Q := ⟨_, rfl⟩
  rw [hQ] at h hi ⊢
  have w1 : IntKind.i64.wrap ((i : Int) + 1) = (i : Int) + 1 := wrap64 (by omega)
  have w2 : IntKind.i64.wrap (((i : Int) + 1) * P) = (Q : Int) := by
    rw [show ((i : Int) + 1) * P = (((i + 1) * P : Nat) : Int) by simp, hQ]; exact wrap64 (by omega)
  have w3 : IntKind.i64.wrap ((Q : Int) - 1) = ((Q - 1 : Nat) : Int) := by rw [wrap64 (by omega)]; omega
  have hS := rstored_eq (Q - 1) (by omega)
  have hSl := storedN_le (Q - 1)
  obtain ⟨Z, hZ⟩ : ∃ Z, Q - 1 = Z := ⟨_, rfl⟩
  rw [hZ] at hS hSl w3 ⊢
  have w4 : IntKind.i64.wrap ((storedN Z : Int) + l) = ((storedN Z + l : Nat) : Int) := by rw [wrap64 (by omega)]; omega
  have hc : ((storedN Z + l : Nat) : Int) = (storedN Z : Int) + l := by simp
  rw [hc] at w4 ⊢
  refine EV_post rfl Tryd.func22 rfl (by simp [Tryd.ntmps22]) (by kernel_rfl) (by kernel_rfl) ?_
  simp (maxSteps := 4000000) [List.getElem?_cons_zero, List.getElem?_cons_succ, hT', hP, w1, w2, w3, hS, w4, Tryd.results22]
theorem rCount_yes (n : Nat) (h : n ≤ 1048576) (σ) : ev 24 [.int .i64 n] σ = some (.tup [.int .i64 (storedN n), .int .i64 0], σ) := by
  refine EV_post rfl Tryd.func24 rfl (by simp [Tryd.ntmps24]) (by kernel_rfl) (by kernel_rfl) ?_
  have hs := rstored_eq n (by omega) σ
  have h2 : ¬ 1048576 < n := by omega
  simp (maxSteps := 4000000) [List.getElem?_cons_zero, List.getElem?_cons_succ, hs, h2, Tryd.results24]
theorem rCount_no (n : Int) (h : n < 0 ∨ 1048576 < n) (σ) : ev 24 [.int .i64 n] σ = some (.tup [.int .i64 0, .int .i64 6], σ) := by
  refine EV_post rfl Tryd.func24 rfl (by simp [Tryd.ntmps24]) (by kernel_rfl) (by kernel_rfl) ?_
  by_cases h1 : n < 0
  · simp (maxSteps := 4000000) [List.getElem?_cons_zero, List.getElem?_cons_succ, h1, Tryd.results24]
  · have h2 : 1048576 < n := by omega
    simp (maxSteps := 4000000) [List.getElem?_cons_zero, List.getElem?_cons_succ, h1, h2, Tryd.results24]
/-- each number is an odd one, doubled some times -/
theorem odd_part (m : Nat) : 0 < m → ∃ l k, m = (k + 1) * 2 ^ l ∧ k % 2 = 0 := by
  induction m using Nat.strongRecOn with
  | _ m ih =>
    intro h
    by_cases he : m % 2 = 1
    · exact ⟨0, m - 1, by simp; omega, by omega⟩
    · obtain ⟨l, k, h1, h2⟩ := ih (m / 2) (by omega) (by omega)
      refine ⟨l + 1, k, ?_, h2⟩
      rw [Nat.pow_succ, ← Nat.mul_assoc, ← h1]; omega
theorem stored_step_le (lo : Nat) (h : lo < 1048576) : storedN (lo + 1) ≤ storedN lo + 21 := by
  obtain ⟨l, k, h1, h2⟩ := odd_part (lo + 1) (by omega)
  have := stored_gap_eq l k (by rw [← h1]; omega) h2
  rw [← h1, Nat.add_sub_cancel] at this
  have hl : l ≤ 20 := by
    rcases Nat.lt_or_ge 20 l with q | q
    · have : 2 ^ 21 ≤ 2 ^ l := Nat.pow_le_pow_right (by omega) (by omega)
      have : 2 ^ l ≤ (k + 1) * 2 ^ l := Nat.le_mul_of_pos_left _ (by omega)
      omega
    · exact q
  omega
theorem stored_find (x N : Nat) (h : x < storedN N) : ∃ lo, lo < N ∧ storedN lo ≤ x ∧ x < storedN (lo + 1) := by
  induction N with
  | zero => rw [storedN_zero] at h; omega
  | succ N ih =>
    by_cases hc : x < storedN N
    · obtain ⟨lo, h1, h2⟩ := ih hc; exact ⟨lo, by omega, h2⟩
    · exact ⟨N, by omega, by omega, h⟩
theorem rSplit_no (x : Int) (h : x < 0 ∨ 2097151 ≤ x) (σ) : ev 23 [.int .i64 x] σ = some (.tup [.int .i64 0, .int .i64 0, .int .i64 6], σ) := by
  refine EV_post rfl Tryd.func23 rfl (by simp [Tryd.ntmps23]) (by kernel_rfl) (by kernel_rfl) ?_
  have hs : ev 60 [.int .i64 1048576] σ = some (.int .i64 2097151, σ) := by have := rstored_eq 1048576 (by omega) σ; rw [stored_most] at this; exact this
  by_cases h1 : x < 0
  · simp (maxSteps := 4000000) [List.getElem?_cons_zero, List.getElem?_cons_succ, hs, h1, Tryd.results23]
  · have h2 : 2097151 ≤ x := by omega
    simp (maxSteps := 4000000) [List.getElem?_cons_zero, List.getElem?_cons_succ, hs, h1, h2, Tryd.results23]
theorem rSplit_yes (x lo l g : Nat) (hl : x = storedN lo + l) (h2 : x < storedN (lo + 1)) (h3 : lo < 1048576) (hg : (lo + 1) / 2 ^ l = g) (hl20 : l ≤ 20) (σ) :
    ev 23 [.int .i64 x] σ = some (.tup [.int .i64 l, .int .i64 ((g : Int) - 1), .int .i64 0], σ) := by
  refine EV_post rfl Tryd.func23 rfl (by simp [Tryd.ntmps23]) (by kernel_rfl) (by kernel_rfl) ?_
  have hs : ev 60 [.int .i64 1048576] σ = some (.int .i64 2097151, σ) := by have := rstored_eq 1048576 (by omega) σ; rw [stored_most] at this; exact this
  have hx : x < 2097151 := by have := stored_mono (n := lo + 1) (m := 1048576) (by omega) (by omega); rw [stored_most] at this; omega
  have q1 : ¬ (x : Int) < 0 := by omega
  have q2 : ¬ 2097151 ≤ (x : Int) := by omega
  simp (maxSteps := 4000000) (disch := omega) [dT, dF, wrap64, hs]
  refine Post_loop (I := fun p : Nat × Nat => ⟨[(0, .int .i64 x), (5, .int .i64 p.1), (6, .int .i64 p.2)], [], σ⟩) (Pr := fun p => p.1 ≤ lo ∧ lo < p.2 ∧ p.2 ≤ 1048576) (μ := fun p => p.2 - p.1) (a := (0, 1048576)) (by simp) (by simp; omega) ?_
  rintro ⟨a, b⟩ ⟨ha, hb, hc⟩
  simp only at ha hb hc
  have w0 : IntKind.i64.wrap ((b : Int) - a) = (b : Int) - a := wrap64 (by omega)
  by_cases hd : 1 < b - a
  · obtain ⟨m, hm⟩ : ∃ m, m = (a + b) / 2 := ⟨_, rfl⟩
    have c1 : 1 < (b : Int) - a := by omega
    have c2 : IntKind.i64.wrap ((a : Int) + b) = (a : Int) + b := wrap64 (by omega)
    have c3 : ((a : Int) + b).tdiv 2 = (m : Int) := by rw [Int.tdiv_eq_ediv_of_nonneg (by omega)]; omega
    have c4 : IntKind.i64.wrap (m : Int) = (m : Int) := wrap64 (by omega)
    have hsm := rstored_eq m (by omega) σ
    by_cases he : storedN m ≤ x
    · have : m ≤ lo := by
        rcases Nat.lt_or_ge lo m with q | q
        · have := stored_mono (n := lo + 1) (m := m) (by omega) (by omega); omega
        · exact q
      simp (maxSteps := 4000000) [List.getElem?_cons_zero, List.getElem?_cons_succ, w0, c1, c2, c3, c4, hsm, he]
      exact ⟨m, b, ⟨by omega, by omega, by omega⟩, by omega, by simp⟩
    · have : lo < m := by
        rcases Nat.lt_or_ge lo m with q | q
        · exact q
        · have := stored_mono (n := m) (m := lo) (by omega) (by omega); omega
      simp (maxSteps := 4000000) [List.getElem?_cons_zero, List.getElem?_cons_succ, w0, c1, c2, c3, c4, hsm, he]
      exact ⟨a, m, ⟨by omega, by omega, by omega⟩, by omega, by simp⟩
  · have : a = lo := by omega
    subst this
    have c1 : ¬ 1 < (b : Int) - a := by omega
    have hsa := rstored_eq a (by omega) σ
    have c3 : IntKind.i64.wrap ((x : Int) - (storedN a : Int)) = (l : Int) := by rw [wrap64 (by omega)]; omega
    have hP := Power_eq l (by omega)
    have hp : 0 < 2 ^ l := Nat.two_pow_pos _
    have c6 : g ≤ a + 1 := by rw [← hg]; exact Nat.div_le_self _ _
    have c5 : ((a : Int) + 1).tdiv ((2 ^ l : Nat) : Int) = (g : Int) := by
      rw [Int.tdiv_eq_ediv_of_nonneg (by omega), ← hg]; simp
    obtain ⟨P, hPd⟩ : ∃ P, 2 ^ l = P := ⟨_, rfl⟩
    rw [hPd] at hP c5 hp
    have w2 : IntKind.i64.wrap ((a : Int) + 1) = (a : Int) + 1 := wrap64 (by omega)
    have w3 : IntKind.i64.wrap ((g : Int) - 1) = (g : Int) - 1 := wrap64 (by omega)
    have w4 : IntKind.i64.wrap (g : Int) = g := wrap64 (by omega)
    have hp0 : ¬ P = 0 := by omega
    simp (maxSteps := 4000000) [List.getElem?_cons_zero, List.getElem?_cons_succ, w0, c1, hsa, c3, hP, hp0, w2, c5, w4, w3, Tryd.results23]
end Go.Proofs.Tryd.Ai
end
section
/- TlogHashes: the evaluation. -/
namespace Go.Proofs.Tryd.Ai
open Go Go.AI Go.Proofs
set_option maxHeartbeats 4000000
set_option linter.unusedVariables false

/-- a place in the stored order, as both tell it -/
theorem splits_eq (x : Int) : ∃ a b e : Int, (∀ σ, ev 12 [.int .i64 x] σ = some (.tup [.int .i64 a, .int .i64 b, .int .i64 e], σ)) ∧ ∀ σ, ev 23 [.int .i64 x] σ = some (.tup [.int .i64 a, .int .i64 b, .int .i64 e], σ) := by
  by_cases h : x < 0 ∨ 2097151 ≤ x
  · exact ⟨0, 0, 6, Split_no x h, rSplit_no x h⟩
  · obtain ⟨n, rfl⟩ := Int.eq_ofNat_of_zero_le (show 0 ≤ x by omega)
    obtain ⟨lo, h1, h2, h3⟩ := stored_find n 1048576 (by rw [stored_most]; omega)
    have h4 := stored_step_le lo h1
    obtain ⟨l, hl⟩ : ∃ l, n = storedN lo + l := ⟨n - storedN lo, by omega⟩
    exact ⟨_, _, _, Split_yes n lo l _ hl h3 h1 rfl, rSplit_yes n lo l _ hl h3 h1 rfl (by omega)⟩
theorem indexes_eq (v k : Int) : ∃ a e : Int, (∀ σ, ev 11 [.int .i64 v, .int .i64 k] σ = some (.tup [.int .i64 a, .int .i64 e], σ)) ∧ ∀ σ, ev 22 [.int .i64 v, .int .i64 k] σ = some (.tup [.int .i64 a, .int .i64 e], σ) := by
  cases h : inP 1048576 v k with
  | false => exact ⟨_, _, Index_no v k h, rIndex_no v k h⟩
  | true =>
    obtain ⟨l, i, rfl, rfl, h1, h2⟩ := inP_nat (by omega) h
    exact ⟨_, _, Index_yes l i h1 (by simpa using h2), rIndex_yes l i h1 (by simpa using h2)⟩
theorem counts_eq (n : Int) : ∃ a e : Int, (∀ σ, ev 14 [.int .i64 n] σ = some (.tup [.int .i64 a, .int .i64 e], σ)) ∧ ∃ a', (∀ σ, ev 24 [.int .i64 n] σ = some (.tup [.int .i64 a', .int .i64 e], σ)) ∧ a' = a := by
  by_cases h : n < 0 ∨ 1048576 < n
  · exact ⟨_, _, Count_no n h, _, rCount_no n h, rfl⟩
  · obtain ⟨m, rfl⟩ := Int.eq_ofNat_of_zero_le (show 0 ≤ n by omega)
    exact ⟨_, _, Count_yes m (by omega), _, rCount_yes m (by omega), rfl⟩
theorem lhashQ_in (LB : List (List UInt8)) (h : LB.length ≤ 1048576) (v k : Int) : (inP LB.length v k = true ∧ ∃ l i : Nat, v = l ∧ k = i ∧ (i + 1) * 2 ^ l ≤ LB.length ∧ l ≤ 20 ∧ lhashQ LB v k = some (wholeT nodeB (leafF LB) l i)) ∨ (inP LB.length v k = false ∧ lhashQ LB v k = none) := by
  cases hc : inP LB.length v k with
  | true =>
    obtain ⟨l, i, rfl, rfl, h1, h2⟩ := inP_nat (by omega) hc
    simp only [Int.toNat_natCast] at h2
    refine .inl ⟨rfl, l, i, rfl, rfl, h2, h1, ?_⟩
    unfold lhashQ
    rw [if_pos (by simp; exact h2)]; simp
  | false =>
    refine .inr ⟨rfl, ?_⟩
    unfold lhashQ
    rw [if_neg]
    rintro ⟨h1, h2, h3⟩
    obtain ⟨l, rfl⟩ := Int.eq_ofNat_of_zero_le h1
    obtain ⟨i, rfl⟩ := Int.eq_ofNat_of_zero_le h2
    simp only [Int.toNat_natCast] at h3
    have hl : l ≤ 20 := by
      rcases Nat.lt_or_ge 20 l with q | q
      · have : 2 ^ 21 ≤ 2 ^ l := Nat.pow_le_pow_right (by omega) (by omega)
        have : 2 ^ l ≤ (i + 1) * 2 ^ l := Nat.le_mul_of_pos_left _ (by omega)
        omega
      · exact q
    rw [inP_of hl h3] at hc; cases hc
theorem hashesLaw_eq (l : List (List UInt8)) (v k x : Int) (h : l.length ≤ 1048576 ∧ ∀ s ∈ l, s.length ≤ 1048576) (σ0 : List (List AV)) : ev 4 [.sl .sh (hs l), .int .i64 v, .int .i64 k, .int .i64 x] [] = some (.bool true, []) := by
  obtain ⟨σ, hσ⟩ : ∃ σ : List (List AV), σ = [] := ⟨_, rfl⟩
  rw [← hσ]
  have hF := first_eq
  obtain ⟨b, hfew, hb⟩ := few_eq l (by omega) (fun x hx => by have := h.2 x hx; omega) σ
  refine EV_post rfl Tryd.func4 rfl (by simp [Tryd.ntmps4]) (by kernel_rfl) (by kernel_rfl) ?_
  cases b with
  | false => simp (maxSteps := 4000000) [List.getElem?_cons_zero, List.getElem?_cons_succ, hF, hfew, Tryd.results4]
  | true =>
    have hl := hb rfl
    obtain ⟨s, p, q, hM, hlog, hpre, hlen, hp, hq⟩ := made_of l (by omega) (fun x hx => by have := h.2 x hx; omega) σ
    obtain ⟨LB, hLB⟩ : ∃ LB, l.map leafB = LB := ⟨_, rfl⟩
    rw [hLB] at hM hlog
    have hLBl : LB.length = l.length := by rw [← hLB]; simp
    obtain ⟨ia, ie, hi1, hi2⟩ := indexes_eq v k
    obtain ⟨sa, sb, se, hs1, hs2⟩ := splits_eq x
    obtain ⟨ca, ce, hc1, _, hc2, rfl⟩ := counts_eq x
    have hT := There_eq l.length (by omega) v k
    have hH := hlog.hash v k
    have hNum := Num_eq
    have hHl : (hs l).length = l.length := by simp [hs]
    simp only [logP] at hM hH
    rcases lhashQ_in LB hlog.len v k with ⟨e1, L, i, rfl, rfl, e2, e3, e4⟩ | ⟨e1, e4⟩
    · rw [hLBl] at e1 e2
      rw [e1] at hT
      rw [e4] at hH
      simp only [lookA] at hH
      have hP := Power_eq L (by omega)
      have hpos : 0 < 2 ^ L := Nat.two_pow_pos _
      have hsl : (i + 1) * 2 ^ L = i * 2 ^ L + 2 ^ L := by rw [Nat.add_mul, Nat.one_mul]
      -- the leaves of the tree
      have hdl : ((LB.take (i * 2 ^ L + 2 ^ L)).drop (i * 2 ^ L)).length = 2 ^ L := by simp; omega
      have hR := rHash_eq _ ((LB.take (i * 2 ^ L + 2 ^ L)).drop (i * 2 ^ L)) rfl (by omega) (fun x hx => by rw [hlog.small x (List.mem_of_mem_take (List.mem_of_mem_drop hx))]; omega)
      rw [hashL_span (L := leafF LB) (f := i * 2 ^ L) (by omega) (fun j hj => by rw [leafF_drop, leafF_take (by omega)]), hdl, span_whole] at hR
      have hW := wholeT_len (leafF LB) L i hlog.leaf
      have hSB := SameBytes_eq .sh .sh (wholeT nodeB (leafF LB) L i) (wholeT nodeB (leafF LB) L i) (by omega)
      have hSB' : ∀ σ, ev 20 [.sl .sh ((wholeT nodeB (leafF LB) L i).map .u8), .sl .sh ((wholeT nodeB (leafF LB) L i).map .u8)] σ = some (.bool true, σ) := fun σ => by rw [hSB σ]; simp
      generalize wholeT nodeB (leafF LB) L i = X at *
      obtain ⟨P, hPd⟩ : ∃ P, 2 ^ L = P := ⟨_, rfl⟩
      simp only [hs, List.map_drop, List.map_take] at hR
      rw [hPd] at hP hR hsl e2 hpos
      obtain ⟨Q, hQ⟩ : ∃ Q, i * P = Q := ⟨_, rfl⟩
      rw [hQ] at hR hsl
      have w1 : IntKind.i64.wrap ((i : Int) * P) = (Q : Int) := by
        rw [show (i : Int) * P = ((i * P : Nat) : Int) by simp, hQ]; exact wrap64 (by omega)
      obtain ⟨U, hU⟩ : ∃ U, Q + P = U := ⟨_, rfl⟩
      rw [hU] at hR hsl
      have w2 : IntKind.i64.wrap ((Q : Int) + P) = (U : Int) := by rw [wrap64 (by omega)]; omega
      have q1 : Q ≤ U := by omega
      have q2 : U ≤ LB.length := by omega
      generalize hHs : hs l = H at *
      simp (maxSteps := 4000000) [List.getElem?_cons_zero, List.getElem?_cons_succ, hF, hfew, hM, log_eql, hHl, hH, hNum, hT, hP, w1, w2, q1, q2, hR, hSB', hi1, hi2, hs1, hs2, hc1, hc2, Tryd.results4]
      rw [need_of (by subst hσ; intro b hb; simp at hb)]; subst hσ; simp
    · rw [hLBl] at e1
      rw [e1] at hT
      rw [e4] at hH
      simp only [lookA] at hH
      generalize hHs : hs l = H at *
      simp (maxSteps := 4000000) [List.getElem?_cons_zero, List.getElem?_cons_succ, hF, hfew, hM, log_eql, hHl, hH, hNum, hT, hi1, hi2, hs1, hs2, hc1, hc2, Tryd.results4]
      rw [need_of (by subst hσ; intro b hb; simp at hb)]; subst hσ; simp
end Go.Proofs.Tryd.Ai
end
section
/- A statement's arguments, as the evaluation holds them. No program is in sight. -/
namespace Go.AI
open Go.RowKit Go.ChangeShapes
set_option linter.unusedVariables false

theorem plain_addr {w : World} {a : Addr} {v : Value} (h : w.cell? a = some v) : ∃ b off, a = ⟨b, off, none⟩ := by
  obtain ⟨b, off, s⟩ := a
  cases s with
  | none => exact ⟨b, off, rfl⟩
  | some s =>
    simp only [World.cell?] at h
    split at h <;> simp at h

section
variable {H : Type} {enc : TypeId × Value → H} {P : Program} {W : World} {t e : TypeId} {α : Type}

/-- what is read at a type is a value of α, held as R says; Q: what of the datum -/
structure Reads (enc : TypeId × Value → H) (P : Program) (W : World) (t : TypeId) {α : Type} (R : α → AV) (Q : α → DataW H → Prop) : Prop where
  cells : ∀ a, (R a).cells.length = P.cellsOf t ∧ (∀ c ∈ (R a).cells, plain c = true)
  pos : 0 < P.cellsOf t
  rd : ∀ fuel cs x, DataW.trod enc P W 0 (fun _ => true) true fuel t cs = some x → ∃ a, Q a x.1 ∧ cs.length = P.cellsOf t ∧ ∀ j c, (R a).cells[j]? = some c → Rep W.heap.size gh0 W (cs.getD j undef) c

theorem one_cell {v : Value} {c : AV} (h : Rep W.heap.size gh0 W v c) : ∀ j c', [c][j]? = some c' → Rep W.heap.size gh0 W ([v].getD j undef) c' := by
  intro j c' e
  cases j with
  | zero => simp at e; subst e; exact h
  | succ j => simp at e

theorem Reads.int {k : IntKind} (ht : P.underlying t = some (.int k)) (hc : P.cellsOf t = 1) : Reads enc P W t (fun n : Int => AV.int k n) (fun n d => d = .lit (.int k n) ∧ (Lit.int k n).wf = true) := by
  refine ⟨fun a => ⟨by rw [hc]; rfl, fun c h => by simp [AV.cells] at h; subst h; rfl⟩, by omega, fun fuel cs x h => ?_⟩
  obtain ⟨n, rfl, rfl, hw⟩ := DataW.trod_int ht h
  exact ⟨n, ⟨rfl, hw⟩, by simp [hc], one_cell (.int k n)⟩
theorem Reads.u8 (ht : P.underlying t = some (.int .u8)) (hc : P.cellsOf t = 1) : Reads enc P W t AV.u8 (fun n d => d = .lit (.int .u8 n.toNat)) := by
  refine ⟨fun a => ⟨by rw [hc]; rfl, fun c h => by simp [AV.cells, AV.u8] at h; subst h; rfl⟩, by omega, fun fuel cs x h => ?_⟩
  obtain ⟨n, rfl, rfl, hw⟩ := DataW.trod_int ht h
  have hb := bounds_u8 hw
  obtain ⟨m, rfl⟩ := Int.eq_ofNat_of_zero_le hb.1
  have hm : (UInt8.ofNat m).toNat = m := by simp only [UInt8.toNat_ofNat']; omega
  exact ⟨UInt8.ofNat m, by rw [hm], by simp [hc], one_cell (by rw [AV.u8, hm]; exact .int _ _)⟩
theorem Reads.bool (ht : P.underlying t = some .bool) (hc : P.cellsOf t = 1) : Reads enc P W t AV.bool (fun b d => d = .lit (.bool b)) := by
  refine ⟨fun a => ⟨by rw [hc]; rfl, fun c h => by simp [AV.cells] at h; subst h; rfl⟩, by omega, fun fuel cs x h => ?_⟩
  cases fuel with
  | zero => simp [DataW.trod] at h
  | succ n =>
    unfold DataW.trod at h
    rw [ht] at h
    split at h
    all_goals first
      | (rename_i b _; injection h with h; subst h; exact ⟨b, rfl, by simp [hc], one_cell (.bool _)⟩)
      | (simp at *; done)
theorem Reads.str (ht : P.underlying t = some .string) (hc : P.cellsOf t = 1) : Reads enc P W t AV.str (fun s d => d = .lit (.string s) ∧ s.length ≤ maxLen) := by
  refine ⟨fun a => ⟨by rw [hc]; rfl, fun c h => by simp [AV.cells] at h; subst h; rfl⟩, by omega, fun fuel cs x h => ?_⟩
  obtain ⟨s, rfl, rfl, hw⟩ := DataW.trod_string ht h
  exact ⟨s.data.toList, ⟨rfl, by simpa using hw⟩, by simp [hc], one_cell (.str s)⟩

theorem cells_get {w : World} {a : Addr} {n : Nat} {cs : List Value} (h : w.cells? 0 a n = some cs) : cs.length = n ∧ ∀ j, j < n → w.cell? (a.add j) = some (cs.getD j undef) := by
  unfold World.cells? at h
  rw [if_pos (Nat.zero_le _)] at h
  have hl := mapM_some_length h
  refine ⟨by simpa using hl, fun j hj => ?_⟩
  have h1 := mapM_some_get h j j (by simp [hj])
  have hlt : j < cs.length := by rw [hl]; simpa using hj
  rw [h1, List.getElem?_eq_getElem hlt]
  simp [List.getD, List.getElem?_eq_getElem hlt]

theorem flat_at {α : Type} {R : α → AV} (l : List α) (i j : Nat) (c : AV) (h : ((l.map R)[i]?.bind fun e => e.cells[j]?) = some c) : ∃ a, l[i]? = some a ∧ (R a).cells[j]? = some c := by
  rw [List.getElem?_map] at h
  cases hx : l[i]? with
  | none => rw [hx] at h; cases h
  | some a => rw [hx] at h; exact ⟨a, rfl, h⟩
theorem choose_list {α : Type} {Q : Nat → α → Prop} (n : Nat) (h : ∀ i, i < n → ∃ z, Q i z) : ∃ l : List α, l.length = n ∧ ∀ (i : Nat) (z : α), l[i]? = some z → Q i z := by
  induction n with
  | zero => exact ⟨[], rfl, fun i z e => by simp at e⟩
  | succ n ih =>
    obtain ⟨l, hl, hq⟩ := ih fun i hi => h i (by omega)
    obtain ⟨z, hz⟩ := h n (by omega)
    refine ⟨l ++ [z], by simp [hl], fun i y e => ?_⟩
    rw [List.getElem?_append] at e
    split at e
    · exact hq i y e
    · rename_i hi
      have : i = n := by
        rcases Nat.lt_or_ge (i - l.length) 1 with q | q
        · omega
        · rw [List.getElem?_eq_none (by simpa using q)] at e; cases e
      subst this
      simp [hl] at e; subst e; exact hz

/-- a slice's datum, by its elements' -/
def slQ {α : Type} (Q : α → DataW H → Prop) (l : List α) (d : DataW H) : Prop :=
  (l = [] ∧ d = .nil) ∨ ∃ ds rest, d = .slice ds rest ∧ l.length = ds.length ∧ l.length ≤ maxLen ∧ ∀ (i : Nat) (a : α) (x : DataW H), l[i]? = some a → ds[i]? = some x → Q a x

theorem Reads.slice {R : α → AV} {Q : α → DataW H → Prop} (h : Reads enc P W e R Q) (ht : P.underlying t = some (.slice e)) (hc : P.cellsOf t = 1) : Reads enc P W t (fun l : List α => AV.sl .sh (l.map R)) (slQ Q) := by
  refine ⟨fun a => ⟨by rw [hc]; rfl, fun c q => by simp [AV.cells] at q; subst q; rfl⟩, by omega, fun fuel cs x hx => ?_⟩
  rcases Go.Deep.open_slice ht hx with ⟨rfl, rfl⟩ | ⟨a, len, cap, m, n, D, Pl, rfl, hb, hl, hm, hm2, rfl, hel⟩
  · exact ⟨[], .inl ⟨rfl, rfl⟩, by simp [hc], one_cell (.slnil _)⟩
  · simp only [if_true] at hm2
    subst hm2
    obtain ⟨l, hl2, hq⟩ := choose_list (Q := fun i (z : α) => Q z (D i) ∧ ∀ j, j < P.cellsOf e → ∃ v, W.cell? ((a.add (i * P.cellsOf e)).add j) = some v ∧ ∀ c, (R z).cells[j]? = some c → Rep W.heap.size gh0 W v c) len (by
      intro i hi
      obtain ⟨cs', h1, h2⟩ := hel i (by omega)
      obtain ⟨z, h3, h4, h5⟩ := h.rd _ _ _ h2
      obtain ⟨h6, h7⟩ := cells_get h1
      exact ⟨z, h3, fun j hj => ⟨_, h7 j hj, fun c hc => h5 j c hc⟩⟩)
    subst hl2
    refine ⟨l, .inr ⟨_, _, rfl, by simp, by omega, fun i z x h1 h2 => ?_⟩, by simp [hc], one_cell ?_⟩
    · have hi : i < l.length := (List.getElem?_eq_some_iff.1 h1).1
      rw [List.getElem?_map, List.getElem?_range hi] at h2
      simp at h2; subst h2
      exact (hq i z h1).1
    · by_cases h0 : l = []
      · subst h0; exact   .sl0 a m .sh (by simp) hm
      · have hpos := h.pos
        have hlen : 0 < l.length := List.length_pos_iff.2 h0
        obtain ⟨z0, hz0⟩ : ∃ z, l[0]? = some z := ⟨_, List.getElem?_eq_getElem hlen⟩
        obtain ⟨v0, hv0, _⟩ := (hq 0 z0 hz0).2 0 hpos
        have hadd : ∀ (a : Addr) (i : Nat) b off, a = ⟨b, off, none⟩ → a.add i = ⟨b, off + i, none⟩ := fun a i b off q => by subst q; unfold Addr.add; split <;> simp_all
        obtain ⟨b, off, rfl⟩ : ∃ b off, a = ⟨b, off, none⟩ := by
          obtain ⟨b, off, s⟩ := a
          cases s with
          | none => exact ⟨b, off, rfl⟩
          | some s =>
            obtain ⟨b', off', q⟩ := plain_addr hv0
            simp [Addr.add] at q
        have hrl : (l.map R).length = l.length := by simp
        rw [← hrl]
        rw [hadd _ _ b off rfl, hadd _ _ b _ rfl] at hv0
        have hblk : b < W.heap.size := World.block_lt_of_cell? W _ hv0
        have hall : ∀ k, k < l.length * P.cellsOf e → ∃ z v, l[k / P.cellsOf e]? = some z ∧ W.cell? ⟨b, off + k, none⟩ = some v ∧ ∀ c, (R z).cells[k % P.cellsOf e]? = some c → Rep W.heap.size gh0 W v c := by
          intro k hk
          have hki : k / P.cellsOf e < l.length := (Nat.div_lt_iff_lt_mul hpos).2 hk
          obtain ⟨z, hz⟩ : ∃ z, l[k / P.cellsOf e]? = some z := ⟨_, List.getElem?_eq_getElem hki⟩
          obtain ⟨v, hv, hr⟩ := (hq _ z hz).2 (k % P.cellsOf e) (Nat.mod_lt _ hpos)
          have : (Addr.add (Addr.add ⟨b, off, none⟩ (k / P.cellsOf e * P.cellsOf e)) (k % P.cellsOf e)) = ⟨b, off + k, none⟩ := by
            rw [hadd _ _ b off rfl, hadd _ _ b _ rfl]
            have := Nat.div_add_mod k (P.cellsOf e)
            rw [Nat.mul_comm] at this
            rw [Nat.add_assoc, this]
          rw [this] at hv
          exact ⟨z, v, hz, hv, hr⟩
        refine .sl b off m (P.cellsOf e) .sh (l.map R) (fun k => (W.cell? ⟨b, off + k, none⟩).getD undef) (by simp) hpos (by simpa using hl) hm ?_ ?_ ?_
        · intro x hx
          obtain ⟨z, _, rfl⟩ := List.mem_map.1 hx
          exact h.cells z
        · intro k hk
          obtain ⟨z, v, h1, h2, h3⟩ := hall k (by simpa using hk)
          exact ⟨by rw [h2]; rfl, .inl hblk⟩
        · intro i j c hc'
          obtain ⟨z, hz, hzc⟩ := flat_at l i j c hc'
          have hi : i < l.length := (List.getElem?_eq_some_iff.1 hz).1
          have hj : j < P.cellsOf e := by rw [← (h.cells z).1]; exact (List.getElem?_eq_some_iff.1 hzc).1
          obtain ⟨z', v, h1, h2, h3⟩ := hall (i * P.cellsOf e + j) (by
            have : (i + 1) * P.cellsOf e ≤ l.length * P.cellsOf e := Nat.mul_le_mul_right _ hi
            rw [Nat.add_mul] at this; omega)
          have e1 : (i * P.cellsOf e + j) / P.cellsOf e = i := by rw [Nat.mul_comm, Nat.mul_add_div hpos, Nat.div_eq_of_lt hj]; rfl
          have e2 : (i * P.cellsOf e + j) % P.cellsOf e = j := by rw [Nat.mul_comm, Nat.mul_add_mod, Nat.mod_eq_of_lt hj]
          rw [e1, hz] at h1; injection h1 with h1; subst h1
          rw [e2] at h3
          simp only [h2, Option.getD_some]
          exact h3 c hzc

def oneT (d : Option TypeDesc) : Bool := match d with
  | some (.int _) => true
  | some .string => true
  | some .bool => true
  | some (.slice _) => true
  | _ => false
theorem val_one {r : Reach} {b0 : Nat} {v : Value} (hk : oneT (P.underlying t) = true) (h : Value.okWide P W r b0 t v) : v.cells = #[v] := by
  unfold Value.okWide at h
  cases hd : P.underlying t with
  | none => rw [hd] at hk; cases hk
  | some d =>
    rw [hd] at hk h
    cases d <;> simp only [oneT, Bool.false_eq_true] at hk
    all_goals
      simp only at h
      unfold Cell.okWide at h
      rw [hd] at h
      try unfold Cell.ok at h
      try rw [hd] at h
      cases v <;> first | rfl | (simp at h)

theorem Reads.arg1 {R : α → AV} {Q : α → DataW H → Prop} (h : Reads enc P W t R Q) (hR : ∀ a, (R a).cells = [R a]) (hk : oneT (P.underlying t) = true) {r : Reach} {b0 : Nat} {v : Value} {d : DataW H} {p : List MemPlace}
    (hv : Value.okWide P W r b0 t v) (ht : DataW.Trod enc P W 0 (fun _ => true) true t v d p) : ∃ a, Q a d ∧ Rep W.heap.size gh0 W v (R a) ∧ pers (R a) = true ∧ quiet (R a) = true := by
  obtain ⟨fuel, hf⟩ := ht
  rw [val_one hk hv] at hf
  obtain ⟨a, h1, h2, h3⟩ := h.rd _ _ _ hf
  have h4 := (h.cells a).2 (R a) (by rw [hR]; simp)
  simp only [plain, Bool.and_eq_true] at h4
  refine ⟨a, h1, by have := h3 0 (R a) (by rw [hR]; rfl); simpa using this, ?_, h4.2⟩
  have h5 := h4.1
  cases hq : R a <;> rw [hq] at h5 <;> first | rfl | simp [cell1] at h5
theorem Reads.argS {R : α → AV} {Q : α → DataW H → Prop} (h : Reads enc P W t R Q) (hR : ∀ a, ∃ cs, R a = .agg cs) {fs : Array Field} (hk : P.underlying t = some (.struct fs)) {r : Reach} {b0 : Nat} {v : Value} {d : DataW H} {p : List MemPlace}
    (hv : Value.okWide P W r b0 t v) (ht : DataW.Trod enc P W 0 (fun _ => true) true t v d p) : ∃ a, Q a d ∧ Rep W.heap.size gh0 W v (R a) ∧ pers (R a) = true ∧ quiet (R a) = true := by
  obtain ⟨fuel, hf⟩ := ht
  unfold Value.okWide at hv
  rw [hk] at hv
  obtain ⟨vs, rfl, _, _⟩ := hv
  obtain ⟨a, h1, h2, h3⟩ := h.rd _ _ _ hf
  obtain ⟨cs, hcs⟩ := hR a
  have h4 := h.cells a
  rw [hcs] at h4 h3
  simp only [Value.cells, AV.cells] at h2 h3 h4
  refine ⟨a, h1, ?_⟩
  rw [hcs]
  refine ⟨.agg vs cs (by rw [h4.1, ← h2]; simp) h4.2 fun j c hc => ?_, rfl, rfl⟩
  have := h3 j c hc
  simpa [Array.getD_eq_getD_getElem?, List.getD] using this
/-- behind the call the arguments read as they did -/
theorem trodAll_keep (hl : laidOutB P = true) {W' : World} (hb : Below W.heap.size W W') : ∀ {ts : List TypeId} {vs : List Value} {ds : List (DataW H)} {ps : List MemPlace}, (∀ t ∈ ts, P.readableRec t = true ∧ t < P.types.size) →
    DataW.TrodAll enc P W 0 (fun _ => true) true ts vs ds ps → (∀ x ∈ ps, x.block < W.heap.size) → DataW.TrodAll enc P W' 0 (fun b => decide (b < W.heap.size)) true ts vs ds ps
  | [], [], [], ps, _, h, _ => h
  | t :: ts, [], [], ps, _, h, _ => by simp [DataW.TrodAll] at h
  | [], v :: vs, [], ps, _, h, _ => by simp [DataW.TrodAll] at h
  | [], [], d :: ds, ps, _, h, _ => by simp [DataW.TrodAll] at h
  | t :: ts, v :: vs, [], ps, _, h, _ => by simp [DataW.TrodAll] at h
  | t :: ts, [], d :: ds, ps, _, h, _ => by simp [DataW.TrodAll] at h
  | [], v :: vs, d :: ds, ps, _, h, _ => by simp [DataW.TrodAll] at h
  | t :: ts, v :: vs, d :: ds, ps, ht, h, hp => by
    obtain ⟨p, q, h1, h2, rfl⟩ := h
    refine ⟨p, q, Below.trod hl (ht t (by simp)).1 (ht t (by simp)).2 h1 hb fun x hx => hp x (List.mem_append_left _ hx), ?_, rfl⟩
    exact trodAll_keep hl hb (fun t h => ht t (List.mem_cons_of_mem _ h)) h2 fun x hx => hp x (List.mem_append_right _ hx)
theorem laidVars_mem {w : World} : ∀ {laid : List (String × DataW Unit)} {ps : List MemPlace} {n : String} {d : DataW Unit}, DataW.LaidVars P w laid ps → (n, d) ∈ laid →
    ∃ g t cs fuel p, P.globalNamed n = some g ∧ (P.globals[g]?).map (·.type) = some t ∧ w.var? P n = some cs ∧ DataW.trod (fun _ => ()) P w 0 (fun _ => true) false fuel t cs.toList = some (d, p)
  | [], _, _, _, _, hm => by cases hm
  | x :: r, ps, n, d, h, hm => by
    obtain ⟨g, t, cs, fuel, p, q, h1, h2, h3, h4, h5, _⟩ := h
    rcases List.mem_cons.1 hm with e | hm
    · subst e; exact ⟨g, t, cs, fuel, p, h1, h2, h3, h4⟩
    · exact laidVars_mem h5 hm
theorem tabIs_of_mem {name : String} {k : IntKind} {zs : List Int} {laid : List (String × DataW Unit)} {g : Nat} {n : Nat} (hm : (name, Lib.tabData k zs) ∈ laid)
    (hg : P.globalNamed name = some g) (hty : (P.globals[g]?).map (·.type) = some t) (ht : P.underlying t = some (.array n e)) (he : P.underlying e = some (.int k)) (hce : P.cellsOf e = 1) (hct : P.cellsOf t = n)
    (h : laidMet P laid W) : Lib.TabIs P W name k zs := by
  obtain ⟨ps, hl, _⟩ := h
  obtain ⟨g', t', cs, fuel, p, hg', ht', hvar, hd⟩ := laidVars_mem hl hm
  obtain rfl := Option.some.inj (hg.symm.trans hg')
  obtain rfl := Option.some.inj (hty.symm.trans ht')
  unfold Lib.TabIs
  rw [hvar, ← Lib.cells_of_tab ht he hce hct hd]
end
end Go.AI
end
section
/- A statement's arguments, as the evaluation holds them: structs. No program is in sight. -/
namespace Go.AI
open Go.RowKit Go.ChangeShapes Go.Deep Go.Joins
set_option linter.unusedVariables false
section
variable {H : Type} {enc : TypeId × Value → H} {P : Program} {W : World} {t e : TypeId}

theorem cells_sub {W : World} {cs : List Value} {off n : Nat} {l : List AV} (h : ∀ (j : Nat) (c : AV), l[j]? = some c → Rep W.heap.size gh0 W (((cs.drop off).take n).getD j undef) c) (hl : l.length ≤ n) :
    ∀ (j : Nat) (c : AV), l[j]? = some c → Rep W.heap.size gh0 W (cs.getD (off + j) undef) c := by
  intro j c hc
  have := h j c hc
  have hj : j < n := Nat.lt_of_lt_of_le (List.getElem?_eq_some_iff.1 hc).1 hl
  simpa [List.getD, List.getElem?_take, hj, List.getElem?_drop] using this
def st2R {α β : Type} (R0 : α → AV) (R1 : β → AV) (x : α × β) : AV := .agg ((R0 x.1).cells ++ (R1 x.2).cells)
def st2Q {α β : Type} (Q0 : α → DataW H → Prop) (Q1 : β → DataW H → Prop) (x : α × β) (d : DataW H) : Prop := ∃ d0 d1, d = .agg [d0, d1] ∧ Q0 x.1 d0 ∧ Q1 x.2 d1
theorem Reads.struct2 {α β : Type} {R0 : α → AV} {Q0 : α → DataW H → Prop} {R1 : β → AV} {Q1 : β → DataW H → Prop} {f0 f1 : Field} (h0 : Reads enc P W f0.type R0 Q0) (h1 : Reads enc P W f1.type R1 Q1)
    (ht : P.underlying t = some (.struct #[f0, f1])) (o0 : f0.offset = 0) (o1 : f1.offset = P.cellsOf f0.type) (hc : P.cellsOf t = P.cellsOf f0.type + P.cellsOf f1.type) :
    Reads enc P W t (st2R R0 R1) (st2Q Q0 Q1) := by
  refine ⟨fun x => ⟨?_, ?_⟩, by have := h0.pos; omega, fun fuel cs x hx => ?_⟩
  · show ((R0 x.1).cells ++ (R1 x.2).cells).length = P.cellsOf t
    simp only [List.length_append]
    rw [(h0.cells x.1).1, (h1.cells x.2).1, hc]
  · intro c hq
    replace hq : c ∈ (R0 x.1).cells ++ (R1 x.2).cells := hq
    simp only [List.mem_append] at hq
    rcases hq with hq | hq
    · exact (h0.cells x.1).2 c hq
    · exact (h1.cells x.2).2 c hq
  · obtain ⟨y0, y1, n, rfl, hl, t0, t1⟩ := trod_struct2 ht hx
    obtain ⟨a0, q0, l0, r0⟩ := h0.rd _ _ _ t0
    obtain ⟨a1, q1, l1, r1⟩ := h1.rd _ _ _ t1
    have s0 := cells_sub r0 (Nat.le_of_eq (h0.cells a0).1)
    have s1 := cells_sub r1 (Nat.le_of_eq (h1.cells a1).1)
    refine ⟨(a0, a1), ⟨_, _, rfl, q0, q1⟩, hl, fun j c hj => ?_⟩
    replace hj : ((R0 a0).cells ++ ((R1 a1).cells))[j]? = some c := by simpa [st2R, AV.cells] using hj
    rw [List.getElem?_append] at hj
    split at hj
    · have := s0 _ c hj
      rw [o0] at this
      have e : 0 + (j) = j := by have := (h0.cells a0).1; have := (h1.cells a1).1; omega
      rwa [e] at this
    · rename_i hn0
      have := s1 _ c hj
      rw [o1] at this
      have e : (P.cellsOf f0.type) + (j - (R0 a0).cells.length) = j := by have := (h0.cells a0).1; have := (h1.cells a1).1; omega
      rwa [e] at this
def st3R {α β γ : Type} (R0 : α → AV) (R1 : β → AV) (R2 : γ → AV) (x : α × β × γ) : AV := .agg ((R0 x.1).cells ++ (R1 x.2.1).cells ++ (R2 x.2.2).cells)
def st3Q {α β γ : Type} (Q0 : α → DataW H → Prop) (Q1 : β → DataW H → Prop) (Q2 : γ → DataW H → Prop) (x : α × β × γ) (d : DataW H) : Prop := ∃ d0 d1 d2, d = .agg [d0, d1, d2] ∧ Q0 x.1 d0 ∧ Q1 x.2.1 d1 ∧ Q2 x.2.2 d2
theorem Reads.struct3 {α β γ : Type} {R0 : α → AV} {Q0 : α → DataW H → Prop} {R1 : β → AV} {Q1 : β → DataW H → Prop} {R2 : γ → AV} {Q2 : γ → DataW H → Prop} {f0 f1 f2 : Field} (h0 : Reads enc P W f0.type R0 Q0) (h1 : Reads enc P W f1.type R1 Q1) (h2 : Reads enc P W f2.type R2 Q2)
    (ht : P.underlying t = some (.struct #[f0, f1, f2])) (o0 : f0.offset = 0) (o1 : f1.offset = P.cellsOf f0.type) (o2 : f2.offset = P.cellsOf f0.type + P.cellsOf f1.type) (hc : P.cellsOf t = P.cellsOf f0.type + P.cellsOf f1.type + P.cellsOf f2.type) :
    Reads enc P W t (st3R R0 R1 R2) (st3Q Q0 Q1 Q2) := by
  refine ⟨fun x => ⟨?_, ?_⟩, by have := h0.pos; omega, fun fuel cs x hx => ?_⟩
  · show ((R0 x.1).cells ++ (R1 x.2.1).cells ++ (R2 x.2.2).cells).length = P.cellsOf t
    simp only [List.length_append]
    rw [(h0.cells x.1).1, (h1.cells x.2.1).1, (h2.cells x.2.2).1, hc]
  · intro c hq
    replace hq : c ∈ (R0 x.1).cells ++ (R1 x.2.1).cells ++ (R2 x.2.2).cells := hq
    simp only [List.mem_append] at hq
    rcases hq with (hq | hq) | hq
    · exact (h0.cells x.1).2 c hq
    · exact (h1.cells x.2.1).2 c hq
    · exact (h2.cells x.2.2).2 c hq
  · obtain ⟨y0, y1, y2, n, rfl, hl, t0, t1, t2⟩ := trod_struct3 ht hx
    obtain ⟨a0, q0, l0, r0⟩ := h0.rd _ _ _ t0
    obtain ⟨a1, q1, l1, r1⟩ := h1.rd _ _ _ t1
    obtain ⟨a2, q2, l2, r2⟩ := h2.rd _ _ _ t2
    have s0 := cells_sub r0 (Nat.le_of_eq (h0.cells a0).1)
    have s1 := cells_sub r1 (Nat.le_of_eq (h1.cells a1).1)
    have s2 := cells_sub r2 (Nat.le_of_eq (h2.cells a2).1)
    refine ⟨(a0, a1, a2), ⟨_, _, _, rfl, q0, q1, q2⟩, hl, fun j c hj => ?_⟩
    replace hj : ((R0 a0).cells ++ ((R1 a1).cells ++ ((R2 a2).cells)))[j]? = some c := by simpa [st3R, AV.cells] using hj
    rw [List.getElem?_append] at hj
    split at hj
    · have := s0 _ c hj
      rw [o0] at this
      have e : 0 + (j) = j := by have := (h0.cells a0).1; have := (h1.cells a1).1; have := (h2.cells a2).1; omega
      rwa [e] at this
    · rename_i hn0
      rw [List.getElem?_append] at hj
      split at hj
      · have := s1 _ c hj
        rw [o1] at this
        have e : (P.cellsOf f0.type) + (j - (R0 a0).cells.length) = j := by have := (h0.cells a0).1; have := (h1.cells a1).1; have := (h2.cells a2).1; omega
        rwa [e] at this
      · rename_i hn1
        have := s2 _ c hj
        rw [o2] at this
        have e : (P.cellsOf f0.type + P.cellsOf f1.type) + (j - (R0 a0).cells.length - (R1 a1).cells.length) = j := by have := (h0.cells a0).1; have := (h1.cells a1).1; have := (h2.cells a2).1; omega
        rwa [e] at this
def st4R {α β γ δ : Type} (R0 : α → AV) (R1 : β → AV) (R2 : γ → AV) (R3 : δ → AV) (x : α × β × γ × δ) : AV := .agg ((R0 x.1).cells ++ (R1 x.2.1).cells ++ (R2 x.2.2.1).cells ++ (R3 x.2.2.2).cells)
def st4Q {α β γ δ : Type} (Q0 : α → DataW H → Prop) (Q1 : β → DataW H → Prop) (Q2 : γ → DataW H → Prop) (Q3 : δ → DataW H → Prop) (x : α × β × γ × δ) (d : DataW H) : Prop := ∃ d0 d1 d2 d3, d = .agg [d0, d1, d2, d3] ∧ Q0 x.1 d0 ∧ Q1 x.2.1 d1 ∧ Q2 x.2.2.1 d2 ∧ Q3 x.2.2.2 d3
theorem Reads.struct4 {α β γ δ : Type} {R0 : α → AV} {Q0 : α → DataW H → Prop} {R1 : β → AV} {Q1 : β → DataW H → Prop} {R2 : γ → AV} {Q2 : γ → DataW H → Prop} {R3 : δ → AV} {Q3 : δ → DataW H → Prop} {f0 f1 f2 f3 : Field} (h0 : Reads enc P W f0.type R0 Q0) (h1 : Reads enc P W f1.type R1 Q1) (h2 : Reads enc P W f2.type R2 Q2) (h3 : Reads enc P W f3.type R3 Q3)
    (ht : P.underlying t = some (.struct #[f0, f1, f2, f3])) (o0 : f0.offset = 0) (o1 : f1.offset = P.cellsOf f0.type) (o2 : f2.offset = P.cellsOf f0.type + P.cellsOf f1.type) (o3 : f3.offset = P.cellsOf f0.type + P.cellsOf f1.type + P.cellsOf f2.type) (hc : P.cellsOf t = P.cellsOf f0.type + P.cellsOf f1.type + P.cellsOf f2.type + P.cellsOf f3.type) :
    Reads enc P W t (st4R R0 R1 R2 R3) (st4Q Q0 Q1 Q2 Q3) := by
  refine ⟨fun x => ⟨?_, ?_⟩, by have := h0.pos; omega, fun fuel cs x hx => ?_⟩
  · show ((R0 x.1).cells ++ (R1 x.2.1).cells ++ (R2 x.2.2.1).cells ++ (R3 x.2.2.2).cells).length = P.cellsOf t
    simp only [List.length_append]
    rw [(h0.cells x.1).1, (h1.cells x.2.1).1, (h2.cells x.2.2.1).1, (h3.cells x.2.2.2).1, hc]
  · intro c hq
    replace hq : c ∈ (R0 x.1).cells ++ (R1 x.2.1).cells ++ (R2 x.2.2.1).cells ++ (R3 x.2.2.2).cells := hq
    simp only [List.mem_append] at hq
    rcases hq with ((hq | hq) | hq) | hq
    · exact (h0.cells x.1).2 c hq
    · exact (h1.cells x.2.1).2 c hq
    · exact (h2.cells x.2.2.1).2 c hq
    · exact (h3.cells x.2.2.2).2 c hq
  · obtain ⟨y0, y1, y2, y3, n, rfl, hl, t0, t1, t2, t3⟩ := trod_struct4 ht hx
    obtain ⟨a0, q0, l0, r0⟩ := h0.rd _ _ _ t0
    obtain ⟨a1, q1, l1, r1⟩ := h1.rd _ _ _ t1
    obtain ⟨a2, q2, l2, r2⟩ := h2.rd _ _ _ t2
    obtain ⟨a3, q3, l3, r3⟩ := h3.rd _ _ _ t3
    have s0 := cells_sub r0 (Nat.le_of_eq (h0.cells a0).1)
    have s1 := cells_sub r1 (Nat.le_of_eq (h1.cells a1).1)
    have s2 := cells_sub r2 (Nat.le_of_eq (h2.cells a2).1)
    have s3 := cells_sub r3 (Nat.le_of_eq (h3.cells a3).1)
    refine ⟨(a0, a1, a2, a3), ⟨_, _, _, _, rfl, q0, q1, q2, q3⟩, hl, fun j c hj => ?_⟩
    replace hj : ((R0 a0).cells ++ ((R1 a1).cells ++ ((R2 a2).cells ++ ((R3 a3).cells))))[j]? = some c := by simpa [st4R, AV.cells] using hj
    rw [List.getElem?_append] at hj
    split at hj
    · have := s0 _ c hj
      rw [o0] at this
      have e : 0 + (j) = j := by have := (h0.cells a0).1; have := (h1.cells a1).1; have := (h2.cells a2).1; have := (h3.cells a3).1; omega
      rwa [e] at this
    · rename_i hn0
      rw [List.getElem?_append] at hj
      split at hj
      · have := s1 _ c hj
        rw [o1] at this
        have e : (P.cellsOf f0.type) + (j - (R0 a0).cells.length) = j := by have := (h0.cells a0).1; have := (h1.cells a1).1; have := (h2.cells a2).1; have := (h3.cells a3).1; omega
        rwa [e] at this
      · rename_i hn1
        rw [List.getElem?_append] at hj
        split at hj
        · have := s2 _ c hj
          rw [o2] at this
          have e : (P.cellsOf f0.type + P.cellsOf f1.type) + (j - (R0 a0).cells.length - (R1 a1).cells.length) = j := by have := (h0.cells a0).1; have := (h1.cells a1).1; have := (h2.cells a2).1; have := (h3.cells a3).1; omega
          rwa [e] at this
        · rename_i hn2
          have := s3 _ c hj
          rw [o3] at this
          have e : (P.cellsOf f0.type + P.cellsOf f1.type + P.cellsOf f2.type) + (j - (R0 a0).cells.length - (R1 a1).cells.length - (R2 a2).cells.length) = j := by have := (h0.cells a0).1; have := (h1.cells a1).1; have := (h2.cells a2).1; have := (h3.cells a3).1; omega
          rwa [e] at this
end
end Go.AI
end
section
/- The bulk of what came in. -/
namespace Go.Proofs.YtkbghmnjpfdclaaDoor
open Go Go.AI
set_option linter.unusedVariables false
section
variable {H : Type}
theorem bulk_pos (d : DataW H) : 1 ≤ Rows.uptoBulk d := by
  cases d with
  | lit l => cases l <;> simp [Rows.uptoBulk]
  | _ => simp [Rows.uptoBulk]
theorem bulk_all (ds : List (DataW H)) : ds.length ≤ Rows.uptoBulkAll ds ∧ ∀ d ∈ ds, Rows.uptoBulk d ≤ Rows.uptoBulkAll ds := by
  induction ds with
  | nil => simp
  | cons d r ih =>
    have := bulk_pos d
    simp only [Rows.uptoBulkAll, List.length_cons, List.mem_cons]
    refine ⟨by omega, ?_⟩
    rintro x (rfl | hx)
    · omega
    · have := ih.2 x hx; omega
theorem small_str {s : List UInt8} {d : DataW H} (h : d = .lit (.string s) ∧ s.length ≤ maxLen) : s.length ≤ Rows.uptoBulk d := by
  rw [h.1]; simp [Rows.uptoBulk]
theorem slq_small {α : Type} {Q : α → DataW H → Prop} {f : α → Nat} {l : List α} {d : DataW H} (h : slQ Q l d) (hf : ∀ a x, Q a x → f a ≤ Rows.uptoBulk x) : l.length ≤ Rows.uptoBulk d ∧ ∀ a ∈ l, f a ≤ Rows.uptoBulk d := by
  rcases h with ⟨rfl, rfl⟩ | ⟨ds, rest, rfl, hl, _, hq⟩
  · simp
  · simp only [Rows.uptoBulk]
    have := bulk_all ds
    refine ⟨by omega, fun a ha => ?_⟩
    obtain ⟨i, hi⟩ := List.mem_iff_getElem?.1 ha
    have hlt := (List.getElem?_eq_some_iff.1 hi).1
    obtain ⟨x, hx⟩ : ∃ x, ds[i]? = some x := ⟨_, List.getElem?_eq_getElem (by omega)⟩
    have h1 := hf a x (hq i a x hi hx)
    have h2 := this.2 x (List.mem_of_getElem? hx)
    omega
theorem small_mod {m : List UInt8 × List UInt8} {d : DataW H} (h : st2Q (fun s d => d = .lit (.string s) ∧ s.length ≤ maxLen) (fun s d => d = .lit (.string s) ∧ s.length ≤ maxLen) m d) : m.1.length + m.2.length ≤ Rows.uptoBulk d := by
  obtain ⟨d0, d1, rfl, q0, q1⟩ := h
  have := small_str q0
  have := small_str q1
  simp only [Rows.uptoBulk, Rows.uptoBulkAll]; omega
end
end Go.Proofs.YtkbghmnjpfdclaaDoor
end
section
/- The frame of TlogHashes: from the evaluation to the given statement. -/
namespace Go.Proofs.YtkbghmnjpfdclaaDoor.tlogHashes
open Go Go.AI Go.ChangeShapes Go.WideShapes Go.ChangeAt Go.RowKit
set_option linter.unusedVariables false

theorem own : ownKnob Tryd.prog.godebug = none := by kernel_rfl
theorem mixed : Tryd.prog.follows .mixedOrders = true := by kernel_rfl
theorem laidOut : laidOutB Tryd.prog = true := by kernel_rfl

theorem walk (a0 : List (List UInt8)) (a1 : Int) (a2 : Int) (a3 : Int) (v0 v1 v2 v3 : Value) (W : World) (hl : Go.Proofs.Tryd.Ai.Laid W) (r0 : Rep W.heap.size gh0 W v0 (.sl .sh (a0.map fun l => .sl .sh (l.map .u8)))) (r1 : Rep W.heap.size gh0 W v1 (.int .i64 a1)) (r2 : Rep W.heap.size gh0 W v2 (.int .i64 a2)) (r3 : Rep W.heap.size gh0 W v3 (.int .i64 a3))
    (he : Go.Proofs.Tryd.Ai.ev 4 [.sl .sh (a0.map fun l => .sl .sh (l.map .u8)), .int .i64 a1, .int .i64 a2, .int .i64 a3] [] = some (.bool true, [])) :
    Calls Tryd.prog 4 #[v0, v1, v2, v3] W fun e w' => e = .returned (.bool true) ∧ Below W.heap.size W w' :=
  Go.AI.top (s' := []) mixed rfl (Go.Proofs.Tryd.Ai.T_ok hl) (by rfl)
    (fun j c h => by
      match j, h with
      | 0, h => simp at h; subst h; exact ⟨r0, rfl, rfl⟩
      | 1, h => simp at h; subst h; exact ⟨r1, rfl, rfl⟩
      | 2, h => simp at h; subst h; exact ⟨r2, rfl, rfl⟩
      | 3, h => simp at h; subst h; exact ⟨r3, rfl, rfl⟩
      | j + 4, h => simp at h)
    he

/-- the table of powers, as the row lays it -/
theorem laid_of {W : World} (hL : laidMet Tryd.prog Rows.tlogHashesUptoRow.laid W) : Go.Proofs.Tryd.Ai.Laid W :=
  tabIs_of_mem (g := 1) (t := 168) (e := 121) (n := 20) (by
    have : ("internal/strconv.uint64pow10", Rows.laid_internal_strconv_uint64pow10) ∈ Rows.tlogHashesUptoRow.laid := by simp [Rows.tlogHashesUptoRow]
    have e : (Rows.laid_internal_strconv_uint64pow10 : DataW Unit) = Lib.tabData .u64 Lib.pow10Tab := by kernel_rfl
    rw [e] at this; exact this) (by kernel_rfl) (by kernel_rfl) Tryd.underlying168 Tryd.underlying121 (by kernel_rfl) (by kernel_rfl) hL

theorem readable : ∀ t ∈ Tryd.f4.params.toList, Tryd.prog.readableRec t = true ∧ t < Tryd.prog.types.size := by
  rw [Tryd.params4]
  intro t ht
  simp only [List.mem_cons, List.mem_nil_iff, or_false] at ht
  rcases ht with rfl | rfl | rfl | rfl <;> exact ⟨by kernel_rfl, of_decide_eq_true (by kernel_rfl)⟩

set_option maxRecDepth 100000 in
theorem contract (H : Type) (enc : TypeId × Value → H) (W : World) (base : Nat) (args : Array Value) (ds gs : List (DataW H)) (before : List MemPlace)
    (hval : ∀ (j : Nat) t v, Tryd.f4.params[j]? = some t → args[j]? = some v → Value.okWide Tryd.prog W .any base t v)
    (hW : DataW.Whole enc Tryd.prog Tryd.f4.params.toList Rows.tlogHashesSpec.vars false W args.toList ds gs before) (hcond : ∀ k, (Rows.OpenSpec.upto Rows.tlogHashesSpec).cond = some k → k H (ds ++ gs) = true) (hl : Go.Proofs.Tryd.Ai.Laid W) :
    Calls Tryd.prog 4 args W fun e W' => ∃ v, e = .returned v ∧ Rows.tlogHashesSpec.post enc Tryd.prog Tryd.f4 false true false false W args v W' := by
  have hW' := hW
  obtain ⟨p, q, hA0, hV, rfl, hfz, hnd⟩ := hW
  have hA : DataW.TrodAll enc Tryd.prog W 0 (fun _ => true) true Tryd.f4.params.toList args.toList ds p := hA0
  have hAk := hA
  rw [Tryd.params4] at hA hval
  obtain ⟨v0, vs0, d0, ds0, p0, q0, hargs0, rfl, rfl, h0, r0⟩ := trodAll_cons hA
  obtain ⟨v1, vs1, d1, ds1, p1, q1, hargs1, rfl, rfl, h1, r1⟩ := trodAll_cons r0
  obtain ⟨v2, vs2, d2, ds2, p2, q2, hargs2, rfl, rfl, h2, r2⟩ := trodAll_cons r1
  obtain ⟨v3, vs3, d3, ds3, p3, q3, hargs3, rfl, rfl, h3, r3⟩ := trodAll_cons r2
  obtain ⟨e1, e2, e3⟩ := trodAll_nil r3
  obtain rfl : args = #[v0, v1, v2, v3] := by cases args; simp_all
  subst e2 e3
  obtain ⟨rfl, rfl⟩ := trodVars_none hV
  obtain ⟨a0, Q0, R0, _⟩ := (Reads.slice (Reads.slice (Reads.u8 Tryd.underlying5 (by kernel_rfl)) Tryd.underlying36 (by kernel_rfl)) Tryd.underlying31 (by kernel_rfl)).arg1 (enc := enc) (W := W) (fun _ => rfl) (by kernel_rfl) (hval 0 31 v0 rfl rfl) h0
  obtain ⟨a1, Q1, R1, _⟩ := (Reads.int Tryd.underlying3 (by kernel_rfl)).arg1 (enc := enc) (W := W) (fun _ => rfl) (by kernel_rfl) (hval 1 3 v1 rfl rfl) h1
  obtain ⟨a2, Q2, R2, _⟩ := (Reads.int Tryd.underlying3 (by kernel_rfl)).arg1 (enc := enc) (W := W) (fun _ => rfl) (by kernel_rfl) (hval 2 3 v2 rfl rfl) h2
  obtain ⟨a3, Q3, R3, _⟩ := (Reads.int Tryd.underlying3 (by kernel_rfl)).arg1 (enc := enc) (W := W) (fun _ => rfl) (by kernel_rfl) (hval 3 3 v3 rfl rfl) h3
  have hb : Rows.uptoBulkAll ([d0, d1, d2, d3] ++ []) ≤ 1048576 := of_decide_eq_true (hcond _ rfl)
  simp only [List.append_nil, Rows.uptoBulkAll] at hb
  have s0 : a0.length ≤ 1048576 ∧ ∀ s ∈ a0, s.length ≤ 1048576 := by have := slq_small (f := List.length) Q0 (fun a x h => (slq_small (f := fun _ => 0) h (fun a x h => Nat.zero_le _)).1); exact ⟨by omega, fun s hs => by have := this.2 s hs; omega⟩
  have hlt : ∀ x ∈ (p0 ++ p1 ++ p2 ++ p3 : List MemPlace), True := fun _ _ => trivial
  refine (walk a0 a1 a2 a3 v0 v1 v2 v3 W hl R0 R1 R2 R3 (by have := Go.Proofs.Tryd.Ai.hashesLaw_eq a0 a1 a2 a3 s0 []; exact this)).mono fun e W' ⟨he, bel⟩ => ?_
  subst he
  exact ⟨_, rfl, _, _, _, [], _, [], hW', trodAll_mk1 (shut_bool Tryd.underlying4 _), trodAll_keep laidOut bel readable hAk (fun x hx => by simpa using hW'.lt x (by simpa using hx)), rfl, bel.frame _, fun h => by cases h⟩

noncomputable def laidWorld (os : Os) : World := World.laidAll Tryd.prog os Rows.tlogHashesUptoRow.laid
theorem laid_met (os : Os) : laidMet Tryd.prog Rows.tlogHashesUptoRow.laid ((laidWorld os).forCall (fun _ _ => 0) ⟨#[], #[.slice none 0 0, .int .i64 0, .int .i64 0, .int .i64 0], []⟩).memory :=
  laidMet_laidAll _ (by kernel_rfl) (by kernel_rfl)
theorem reads (os : Os) {H : Type} (enc : TypeId × Value → H) : ∃ places, DataW.whole enc Tryd.prog ((laidWorld os).forCall (fun _ _ => 0) ⟨#[], #[.slice none 0 0, .int .i64 0, .int .i64 0, .int .i64 0], []⟩).memory Tryd.f4.params.toList Rows.tlogHashesSpec.vars false (#[.slice none 0 0, .int .i64 0, .int .i64 0, .int .i64 0] : Array Value).toList 8 = some ([.nil, .lit (.int .i64 0), .lit (.int .i64 0), .lit (.int .i64 0)], [], places) :=
  ⟨[], by kernel_rfl⟩
theorem witness (os : Os) {H : Type} (enc : TypeId × Value → H) : ∃ (w : World) (tape : Tape) (i : Input), w.os = os ∧ (w.forCall tape i).Shaped Tryd.checked.prog ∧ i.vars = [] ∧ Input.okWide Tryd.checked.prog (w.forCall tape i) .any w.heap.size 4 i ∧
    (Rows.OpenSpec.upto Rows.tlogHashesSpec).preRow enc Tryd.checked.prog Tryd.f4 Rows.tlogHashesUptoRow.domain false Rows.tlogHashesUptoRow.laid (w.forCall tape i).memory i.args ∧ ({} : Assume).holds Tryd.checked.prog (lone (Frame.enter Tryd.checked.prog 4 i.args .normal) [] (w.forCall tape i)) := by
  obtain ⟨places, hx⟩ := reads os enc
  have hok : Input.okWideB Tryd.checked.prog ((laidWorld os).forCall (fun _ _ => 0) ⟨#[], #[.slice none 0 0, .int .i64 0, .int .i64 0, .int .i64 0], []⟩) 4 ⟨#[], #[.slice none 0 0, .int .i64 0, .int .i64 0, .int .i64 0], []⟩ = true := by kernel_rfl
  exact ⟨laidWorld os, fun _ _ => 0, ⟨#[], #[.slice none 0 0, .int .i64 0, .int .i64 0, .int .i64 0], []⟩, World.laidAll_os _ _ _, World.shaped_of_ZipB (by kernel_rfl) (by kernel_rfl), (Input.okWide_of_okWideB (base := 0) hok).1, (Input.okWide_of_okWideB hok).2,
    OpenSpec.preRow_of_cond 8 hx (by kernel_rfl) (fun k hk => by have e : k = Rows.uptoSmall := (Option.some.inj (show some Rows.uptoSmall = some k from hk)).symm; rw [e]; simp [Rows.uptoSmall, Rows.uptoBulkAll, Rows.uptoBulk]) (by kernel_rfl) (laid_met os), by
    simp only [Assume.holds]
    exact ⟨by simp, by simp, fun _ => Modest.zero, by simp, by simp⟩⟩

set_option maxRecDepth 100000 in
theorem lifted (os : Os) (started : os.Started) (H : Type) (enc : TypeId × Value → H) (F : Stop.Interp) :
    ReturnsInHanded {} Tryd.checked os 4 .any ((Rows.OpenSpec.upto Rows.tlogHashesSpec).preRow enc Tryd.prog Tryd.f4 Rows.tlogHashesUptoRow.domain false Rows.tlogHashesUptoRow.laid) (((Rows.OpenSpec.upto Rows.tlogHashesSpec).at F).post enc Tryd.prog Tryd.f4 false true false false) := by
  refine returnsInHanded_of_row (C := Tryd.checked) (s := (Rows.OpenSpec.upto Rows.tlogHashesSpec)) own started (by kernel_rfl) Tryd.func4 (witness os enc) ?_
  intro W base args ds gs before hval hW _ hcond _ hL _ _
  exact contract H enc W base args ds gs before hval hW hcond (laid_of (by rw [← MakeChecks.laidMetH_plain _ _ _ (by kernel_rfl)]; exact hL))

theorem said : Rows.TlogHashesUptoSaid :=
  OpenClaim.holds_of_cond 4 Tryd.f4 rfl rfl rfl rfl rfl rfl rfl ⟨rfl, rfl, rfl, rfl, rfl⟩ rfl rfl rfl rfl rfl (by kernel_rfl) Tryd.func4 (by kernel_rfl)
    (of_decide_eq_true (by kernel_rfl)) (by unfold Func.isWrapper; first | (rw [if_pos (by decide +kernel)]; kernel_rfl) | (rw [if_neg (by decide +kernel)]; exact ⟨rfl, rfl⟩))
    (fun os started H enc _ F => by rw [OpenClaim.pre_eq_preRow]; exact lifted os started H enc F)

theorem plain (f : FuncId) (fn : Func) (hf : Tryd.pinned.checked.prog.funcNamed "mews/mewslaw7.TlogHashes" = some f) (hfn : Tryd.pinned.checked.prog.funcs[f]? = some fn) :
    true = Tryd.pinned.checked.prog.looks [] ∧ ∀ (j : Nat) t, fn.params[j]? = some t → Tryd.pinned.checked.prog.wantsStandIn t = false := by
  obtain rfl : f = 4 := Option.some.inj ((show Tryd.prog.funcNamed "mews/mewslaw7.TlogHashes" = some 4 by kernel_rfl).symm.trans hf) |>.symm
  obtain rfl : fn = Tryd.f4 := (Option.some.inj (Tryd.func4.symm.trans hfn)).symm
  refine ⟨by kernel_rfl, fun j t ht => ?_⟩
  have hm : t ∈ Tryd.f4.params.toList := Array.mem_toList_iff.2 (Array.mem_of_getElem? ht)
  rw [Tryd.params4] at hm
  simp only [List.mem_cons, List.mem_nil_iff, or_false] at hm
  rcases hm with rfl | rfl | rfl | rfl
  · exact (show Tryd.prog.wantsStandIn 31 = false by kernel_rfl)
  · exact (show Tryd.prog.wantsStandIn 3 = false by kernel_rfl)
  · exact (show Tryd.prog.wantsStandIn 3 = false by kernel_rfl)
  · exact (show Tryd.prog.wantsStandIn 3 = false by kernel_rfl)

/-- the card -/
theorem card : Rows.TlogHashesUptoCardSaid :=
  Claim7.holds_tied_plain_at .later [] _ _ _ _ said (fun _ h => by cases h) (by kernel_rfl) (fun _ h => by cases h) tlogHashesUpto_row_tie rfl ⟨rfl, rfl⟩ (by kernel_rfl) rfl plain (by kernel_rfl)
end Go.Proofs.YtkbghmnjpfdclaaDoor.tlogHashes
end
