/- Part 6 of a proof: a Go function is evaluated on abstract values (texts MNum .. TL24); no conditions beyond those of each theorem. -/
import Derived.Test.YtmikahmnomfacaaGreatDoorAi5
set_option linter.all false
set_option linter.unusedVariables false
set_option linter.unusedSimpArgs false
set_option linter.unnecessarySimpa false
section
/- Comparisons of numbers with literals. -/
namespace Go.AI
@[simp] theorem cast_le_lit {n k : Nat} : ((n : Int) ≤ (no_index (OfNat.ofNat k) : Int)) ↔ n ≤ k := by
  show (n : Int) ≤ (k : Int) ↔ n ≤ k; omega
@[simp] theorem lit_le_cast {n k : Nat} : ((no_index (OfNat.ofNat k) : Int) ≤ (n : Int)) ↔ k ≤ n := by
  show (k : Int) ≤ (n : Int) ↔ k ≤ n; omega
@[simp] theorem cast_lt_lit {n k : Nat} : ((n : Int) < (no_index (OfNat.ofNat k) : Int)) ↔ n < k := by
  show (n : Int) < (k : Int) ↔ n < k; omega
@[simp] theorem lit_lt_cast {n k : Nat} : ((no_index (OfNat.ofNat k) : Int) < (n : Int)) ↔ k < n := by
  show (k : Int) < (n : Int) ↔ k < n; omega
@[simp] theorem cast_eq_lit {n k : Nat} : ((n : Int) = (no_index (OfNat.ofNat k) : Int)) ↔ n = k := by
  show (n : Int) = (k : Int) ↔ n = k; omega
@[simp] theorem lit_eq_cast {n k : Nat} : ((no_index (OfNat.ofNat k) : Int) = (n : Int)) ↔ k = n := by
  show (k : Int) = (n : Int) ↔ k = n; omega
@[simp] theorem nonneg_add_lit {n k : Nat} : (0 ≤ (n : Int) + (no_index (OfNat.ofNat k) : Int)) ↔ True := by
  show 0 ≤ (n : Int) + (k : Int) ↔ True; constructor; intro _; trivial; intro _; omega
@[simp] theorem nonneg_add_cast {n k : Nat} : (0 ≤ (n : Int) + (k : Int)) ↔ True := by constructor; intro _; trivial; intro _; omega
@[simp] theorem neg_add_lit {n k : Nat} : ((n : Int) + (no_index (OfNat.ofNat k) : Int) < 0) ↔ False := by
  show (n : Int) + (k : Int) < 0 ↔ False; constructor; intro _; omega; intro h; cases h
@[simp] theorem neg_add_cast {n k : Nat} : ((n : Int) + (k : Int) < 0) ↔ False := by constructor; intro _; omega; intro h; cases h
@[simp] theorem toNat_add_lit {n k : Nat} : ((n : Int) + (no_index (OfNat.ofNat k) : Int)).toNat = n + k := by
  show ((n : Int) + (k : Int)).toNat = n + k; omega
@[simp] theorem toNat_add_cast {n k : Nat} : ((n : Int) + (k : Int)).toNat = n + k := by omega
@[simp] theorem cast_inj' {n k : Nat} : ((n : Int) = (k : Int)) ↔ n = k := by omega
@[simp] theorem cast_lt' {n k : Nat} : ((n : Int) < (k : Int)) ↔ n < k := by omega
@[simp] theorem cast_le' {n k : Nat} : ((n : Int) ≤ (k : Int)) ↔ n ≤ k := by omega
@[simp] theorem u8_inj {n k : UInt8} : n.toNat = k.toNat ↔ n = k := UInt8.toNat_inj
@[simp] theorem u8_lit {a : UInt8} {k : Nat} (h : k < 256) : a.toNat = (no_index (OfNat.ofNat k)) ↔ a = UInt8.ofNat k := by
  show a.toNat = k ↔ _
  constructor
  · intro e; apply UInt8.toNat_inj.1; rw [e]; simp; omega
  · intro e; rw [e]; simp; omega
@[simp] theorem u8_beq {a b : UInt8} : (a == b) = decide (a = b) := by
  by_cases h : a = b <;> simp [h]
end Go.AI
end
section
/- tlog's numbers: places in the stored order. -/
namespace Go.Proofs.Tryz.Ai
open Go Go.AI Go.Proofs
set_option maxHeartbeats 400000

def stF : Nat → Nat → Nat
  | 0, _ => 0
  | f + 1, n => if n = 0 then 0 else n + stF f (n / 2)
def storedN (n : Nat) : Nat := stF 64 n
theorem stF_le (f n : Nat) : stF f n ≤ 2 * n := by
  induction f generalizing n with
  | zero => simp [stF]
  | succ f ih => rw [stF]; split; omega; have := ih (n / 2); omega
theorem stF_succ (f n : Nat) : stF (f + 1) n = if n = 0 then 0 else n + stF f (n / 2) := rfl
theorem stF_fuel (f n : Nat) (h : n < 2 ^ f) : stF (f + 1) n = stF f n := by
  induction f generalizing n with
  | zero => simp at h; subst h; rfl
  | succ f ih =>
    rw [stF_succ (f + 1) n, stF_succ f n]
    split
    · rfl
    · rw [ih (n / 2) (by rw [Nat.pow_succ] at h; omega)]
theorem storedN_le (n : Nat) : storedN n ≤ 2 * n := stF_le 64 n
theorem storedN_step (n : Nat) (h0 : n ≠ 0) (h : n < 2 ^ 60) : storedN n = n + storedN (n / 2) := by
  show stF 64 n = n + stF 64 (n / 2)
  rw [stF, if_neg h0, stF_fuel 63 (n / 2) (Nat.lt_of_le_of_lt (Nat.div_le_self n 2) (Nat.lt_trans h (by decide)))]
theorem storedN_zero : storedN 0 = 0 := rfl

theorem stored_eq (n : Nat) (hn : n ≤ 2 ^ 40) (σ) : ev 71 [.int .i64 n] σ = some (.int .i64 (storedN n), σ) := by
  refine EV_post rfl Tryz.func71 rfl (by simp [Tryz.ntmps71]) (by kernel_rfl) (by kernel_rfl) ?_
  simp
  refine Post_loop (I := fun x : Nat × Nat => ⟨[(0, .int .i64 x.1), (3, .int .i64 x.2)], [], σ⟩) (Pr := fun x => x.1 ≤ 2^40 ∧ x.2 ≤ 2^50 ∧ x.2 + storedN x.1 = storedN n) (μ := fun x => x.1) (a := (n, 0)) (by simp) (by simp; omega) ?_
  rintro ⟨a, s⟩ ⟨ha, hs, hr⟩
  simp only at ha hs hr
  have := storedN_le n
  by_cases hc : 0 < a
  · rw [storedN_step a (by omega) (by omega)] at hr
    have c1 : 0 < (a : Int) := by omega
    have c2 : ((a : Int).tdiv 2) = ((a / 2 : Nat) : Int) := by rw [Int.tdiv_eq_ediv_of_nonneg (by omega)]; omega
    simp (maxSteps := 4000000) (disch := omega) [dT, dF, wrap64, c2, hc]
    refine ⟨a / 2, s + a, ⟨by omega, by omega, by omega⟩, by omega, by simp⟩
  · have c1 : a = 0 := by omega
    subst c1
    rw [storedN_zero] at hr
    simp (maxSteps := 4000000) (disch := omega) [dT, dF, wrap64, Tryz.results71, hr]
    omega

theorem within_eq (n level k : Int) (hl : -2^40 ≤ n ∧ n ≤ 2^40) (σ) : ev 44 [.int .i64 n, .int .i64 level, .int .i64 k] σ =
    some (.bool (decide (0 ≤ level ∧ level ≤ 20 ∧ 0 ≤ k ∧ k < n.fdiv (2 ^ level.toNat))), σ) := by
  refine EV_post rfl Tryz.func44 rfl (by simp [Tryz.ntmps44]) (by kernel_rfl) (by kernel_rfl) ?_
  simp
  by_cases h1 : 0 ≤ level
  · by_cases h2 : level ≤ 20
    · by_cases h3 : 0 ≤ k
      · have h4 : min level.toNat 64 = level.toNat := by omega
        have h5 : ¬ level < 0 := by omega
        simp (maxSteps := 4000000) (disch := omega) [dT, dF, wrap64, h1, h2, h3, h4, h5, IntKind.bits, Tryz.results44]
      · simp (maxSteps := 4000000) (disch := omega) [dT, dF, wrap64, h1, h2, h3, Tryz.results44]
    · simp (maxSteps := 4000000) (disch := omega) [dT, dF, wrap64, h1, h2, Tryz.results44]
  · simp (maxSteps := 4000000) (disch := omega) [dT, dF, wrap64, h1, Tryz.results44]
theorem Num_eq (e : Int) (σ) : ev 12 [.int .i64 e] σ = some (.int .i64 e, σ) := by
  refine EV_post rfl Tryz.func12 rfl (by simp [Tryz.ntmps12]) (by kernel_rfl) (by kernel_rfl) ?_
  simp [Tryz.results12]
end Go.Proofs.Tryz.Ai
end
section
/- tlog.Index, Split, Count. -/
namespace Go.Proofs.Tryz.Ai
open Go Go.AI Go.Proofs
set_option maxHeartbeats 400000

def inP (n level k : Int) : Bool := decide (0 ≤ level ∧ level ≤ 20 ∧ 0 ≤ k ∧ k < n.fdiv (2 ^ level.toNat))

theorem fdiv_pow (m l : Nat) : (m : Int).fdiv (2 ^ l) = ((m / 2 ^ l : Nat) : Int) := by
  have : ((2 : Int) ^ l) = ((2 ^ l : Nat) : Int) := by simp
  rw [this, Int.fdiv_eq_ediv_of_nonneg _ (Int.natCast_nonneg _)]; rfl
theorem mul_pow (a l : Nat) : (a : Int) * 2 ^ l = ((a * 2 ^ l : Nat) : Int) := by simp

theorem inP_nat {n level k : Int} (hn : 0 ≤ n) (h : inP n level k = true) : ∃ l i : Nat, level = l ∧ k = i ∧ l ≤ 20 ∧ (i + 1) * 2 ^ l ≤ n.toNat := by
  unfold inP at h
  obtain ⟨h1, h2, h3, h4⟩ := of_decide_eq_true h
  obtain ⟨l, rfl⟩ := Int.eq_ofNat_of_zero_le h1
  obtain ⟨i, rfl⟩ := Int.eq_ofNat_of_zero_le h3
  obtain ⟨m, rfl⟩ := Int.eq_ofNat_of_zero_le hn
  refine ⟨l, i, rfl, rfl, by omega, ?_⟩
  simp only [Int.toNat_natCast] at h4 ⊢
  rw [fdiv_pow] at h4
  have h5 : i + 1 ≤ m / 2 ^ l := by omega
  exact (Nat.le_div_iff_mul_le (Nat.two_pow_pos l)).1 h5
theorem inP_of {m l i : Nat} (hl : l ≤ 20) (h : (i + 1) * 2 ^ l ≤ m) : inP m l i = true := by
  unfold inP
  refine decide_eq_true ⟨by omega, by omega, by omega, ?_⟩
  simp only [Int.toNat_natCast]
  rw [fdiv_pow]
  have := (Nat.le_div_iff_mul_le (Nat.two_pow_pos l)).2 h
  omega

def indexN (l i : Nat) : Nat := storedN ((i + 1) * 2 ^ l - 1) + l

theorem Index_no (level k : Int) (h : inP 1048576 level k = false) (σ) : ev 28 [.int .i64 level, .int .i64 k] σ = some (.tup [.int .i64 0, .int .i64 6], σ) := by
  refine EV_post rfl Tryz.func28 rfl (by simp [Tryz.ntmps28]) (by kernel_rfl) (by kernel_rfl) ?_
  have hw := within_eq 1048576 level k (by omega) σ
  rw [show decide (0 ≤ level ∧ level ≤ 20 ∧ 0 ≤ k ∧ k < Int.fdiv 1048576 (2 ^ level.toNat)) = inP 1048576 level k from rfl, h] at hw
  simp [hw, Tryz.results28]

theorem Index_yes (l i : Nat) (hl : l ≤ 20) (h : (i + 1) * 2 ^ l ≤ 1048576) (σ) : ev 28 [.int .i64 l, .int .i64 i] σ = some (.tup [.int .i64 (indexN l i), .int .i64 0], σ) := by
  refine EV_post rfl Tryz.func28 rfl (by simp [Tryz.ntmps28]) (by kernel_rfl) (by kernel_rfl) ?_
  have hw := within_eq 1048576 l i (by omega) σ
  rw [show decide (0 ≤ (l : Int) ∧ (l : Int) ≤ 20 ∧ 0 ≤ (i : Int) ∧ (i : Int) < Int.fdiv 1048576 (2 ^ (l : Int).toNat)) = inP 1048576 l i from rfl, show inP 1048576 l i = true from inP_of (m := 1048576) hl h] at hw
  have h1 : i ≤ 1048576 := by
    have : i + 1 ≤ (i + 1) * 2 ^ l := Nat.le_mul_of_pos_right _ (Nat.two_pow_pos l)
    omega
  have hp : 0 < (i + 1) * 2 ^ l := Nat.mul_pos (by omega) (Nat.two_pow_pos l)
  obtain ⟨q, hq⟩ : ∃ q, (i + 1) * 2 ^ l = q + 1 := ⟨(i + 1) * 2 ^ l - 1, by omega⟩
  have c1 : IntKind.i64.wrap ((i : Int) + 1) = (i : Int) + 1 := wrap64 (by omega)
  have c2 : min l IntKind.i64.bits = l := by simp [IntKind.bits]; omega
  have c3 : IntKind.i64.wrap (((i : Int) + 1) * 2 ^ l) = (q : Int) + 1 := by
    have := mul_pow (i + 1) l
    rw [hq] at this
    rw [show ((i : Int) + 1) = ((i + 1 : Nat) : Int) from by omega, this, wrap64 (by omega)]; omega
  have hs := stored_eq q (by omega) σ
  have hb := storedN_le q
  have hi : indexN l i = storedN q + l := by unfold indexN; rw [hq]; rfl
  have c6 : ¬ (l : Int) < 0 := by omega
  simp (maxSteps := 4000000) (disch := omega) [dT, dF, wrap64, hw, c2, c6, c3, hs, wrap64, Tryz.results28, hi]
end Go.Proofs.Tryz.Ai
end
section
/- tlog.Count, Split. -/
namespace Go.Proofs.Tryz.Ai
open Go Go.AI Go.Proofs
set_option maxHeartbeats 400000

/-- how many places a record adds -/
theorem stored_even (m : Nat) (h : m < 2 ^ 50) : storedN (2 * m + 1) = storedN (2 * m) + 1 := by
  rw [storedN_step (2 * m + 1) (by omega) (by omega)]
  by_cases h0 : m = 0
  · subst h0; rfl
  · rw [storedN_step (2 * m) (by omega) (by omega), show (2 * m + 1) / 2 = m by omega, show 2 * m / 2 = m by omega]; omega
theorem stored_odd (m : Nat) (h : m < 2 ^ 50) : storedN (2 * m + 2) + storedN m = storedN (2 * m + 1) + storedN (m + 1) + 1 := by
  rw [storedN_step (2 * m + 2) (by omega) (by omega), storedN_step (2 * m + 1) (by omega) (by omega), show (2 * m + 2) / 2 = m + 1 by omega, show (2 * m + 1) / 2 = m by omega]; omega
theorem stored_lt (n : Nat) (h : n < 2 ^ 50) : storedN n < storedN (n + 1) := by
  induction n using Nat.strongRecOn with
  | _ n ih =>
    rcases Nat.mod_two_eq_zero_or_one n with h2 | h2
    · obtain ⟨m, rfl⟩ : ∃ m, n = 2 * m := ⟨n / 2, by omega⟩
      rw [stored_even m (by omega)]; omega
    · obtain ⟨m, rfl⟩ : ∃ m, n = 2 * m + 1 := ⟨n / 2, by omega⟩
      have := stored_odd m (by omega)
      have := ih m (by omega) (by omega)
      show storedN (2 * m + 1) < storedN (2 * m + 2)
      omega
theorem stored_mono {n m : Nat} (h : n ≤ m) (hm : m < 2 ^ 50) : storedN n ≤ storedN m := by
  induction m with
  | zero => have : n = 0 := by omega
            subst this; exact Nat.le_refl _
  | succ m ih =>
    by_cases e : n = m + 1
    · subst e; exact Nat.le_refl _
    · have := ih (by omega) (by omega)
      have := stored_lt m (by omega)
      omega
/-- with the record that ends a whole tree of a level, the levels up to it are stored -/
theorem stored_gap (l k : Nat) (h : (k + 1) * 2 ^ l < 2 ^ 50) : storedN ((k + 1) * 2 ^ l - 1) + l < storedN ((k + 1) * 2 ^ l) := by
  induction l generalizing k with
  | zero => simp; simp at h; exact stored_lt k (by omega)
  | succ l ih =>
    have hp : 0 < (k + 1) * 2 ^ l := Nat.mul_pos (by omega) (Nat.two_pow_pos l)
    have e : (k + 1) * 2 ^ (l + 1) = 2 * ((k + 1) * 2 ^ l) := by rw [Nat.pow_succ]; ac_rfl
    rw [e] at h ⊢
    have := ih k (by omega)
    obtain ⟨m, hm⟩ : ∃ m, (k + 1) * 2 ^ l = m + 1 := ⟨(k + 1) * 2 ^ l - 1, by omega⟩
    rw [hm] at this ⊢
    have h2 := stored_odd m (by omega)
    rw [show m + 1 - 1 = m from rfl] at this
    rw [show 2 * (m + 1) - 1 = 2 * m + 1 by omega, show 2 * (m + 1) = 2 * m + 2 by omega]
    omega
theorem stored_gap_eq (l k : Nat) (h : (k + 1) * 2 ^ l < 2 ^ 50) (hk : k % 2 = 0) : storedN ((k + 1) * 2 ^ l - 1) + l + 1 = storedN ((k + 1) * 2 ^ l) := by
  induction l with
  | zero =>
    obtain ⟨m, rfl⟩ : ∃ m, k = 2 * m := ⟨k / 2, by omega⟩
    simp at h ⊢
    exact (stored_even m (by omega)).symm
  | succ l ih =>
    have hp : 0 < (k + 1) * 2 ^ l := Nat.mul_pos (by omega) (Nat.two_pow_pos l)
    have e : (k + 1) * 2 ^ (l + 1) = 2 * ((k + 1) * 2 ^ l) := by rw [Nat.pow_succ]; ac_rfl
    rw [e] at h ⊢
    have := ih (by omega)
    obtain ⟨m, hm⟩ : ∃ m, (k + 1) * 2 ^ l = m + 1 := ⟨(k + 1) * 2 ^ l - 1, by omega⟩
    rw [hm] at this ⊢
    have h2 := stored_odd m (by omega)
    rw [show m + 1 - 1 = m from rfl] at this
    rw [show 2 * (m + 1) - 1 = 2 * m + 1 by omega, show 2 * (m + 1) = 2 * m + 2 by omega]
    omega

theorem stored_most : storedN 1048576 = 2097151 := by decide +kernel

theorem Split_no (x : Int) (h : x < 0 ∨ 2097151 ≤ x) (σ) : ev 29 [.int .i64 x] σ = some (.tup [.int .i64 0, .int .i64 0, .int .i64 6], σ) := by
  refine EV_post rfl Tryz.func29 rfl (by simp [Tryz.ntmps29]) (by kernel_rfl) (by kernel_rfl) ?_
  have hs : ev 71 [.int .i64 1048576] σ = some (.int .i64 2097151, σ) := by have := stored_eq 1048576 (by omega) σ; rw [stored_most] at this; exact this
  by_cases h1 : x < 0
  · simp (maxSteps := 4000000) (disch := omega) [dT, dF, wrap64, hs, h1, Tryz.results29]
  · have h2 : 2097151 ≤ x := by omega
    simp (maxSteps := 4000000) (disch := omega) [dT, dF, wrap64, hs, h1, h2, Tryz.results29]

theorem Split_yes (x lo l g : Nat) (hl : x = storedN lo + l) (h2 : x < storedN (lo + 1)) (h3 : lo < 1048576) (hg : (lo + 1) / 2 ^ l = g) (σ) :
    ev 29 [.int .i64 x] σ = some (.tup [.int .i64 l, .int .i64 ((g : Int) - 1), .int .i64 0], σ) := by
  refine EV_post rfl Tryz.func29 rfl (by simp [Tryz.ntmps29]) (by kernel_rfl) (by kernel_rfl) ?_
  have hs : ev 71 [.int .i64 1048576] σ = some (.int .i64 2097151, σ) := by have := stored_eq 1048576 (by omega) σ; rw [stored_most] at this; exact this
  have hx : x < 2097151 := by have := stored_mono (n := lo + 1) (m := 1048576) (by omega) (by omega); rw [stored_most] at this; omega
  have q1 : ¬ (x : Int) < 0 := by omega
  have q2 : ¬ 2097151 ≤ (x : Int) := by omega
  simp (maxSteps := 4000000) (disch := omega) [dT, dF, wrap64, hs]
  refine Post_loop (I := fun p : Nat × Nat => ⟨[(0, .int .i64 x), (5, .int .i64 p.1), (6, .int .i64 p.2)], [], σ⟩) (Pr := fun p => p.1 ≤ lo ∧ lo < p.2 ∧ p.2 ≤ 1048576) (μ := fun p => p.2 - p.1) (a := (0, 1048576)) (by simp) (by simp; omega) ?_
  rintro ⟨a, b⟩ ⟨ha, hb, hc⟩
  simp only at ha hb hc
  by_cases hd : 1 < b - a
  · obtain ⟨m, hm⟩ : ∃ m, m = a + (b - a) / 2 := ⟨_, rfl⟩
    have c1 : 1 < (b : Int) - a := by omega
    have c2 : ((b : Int) - a).tdiv 2 = ((m - a : Nat) : Int) := by rw [Int.tdiv_eq_ediv_of_nonneg (by omega)]; omega
    have c3 : IntKind.i64.wrap ((a : Int) + ((m - a : Nat) : Int)) = (m : Int) := by rw [wrap64 (by omega)]; omega
    have hsm := stored_eq m (by omega) σ
    by_cases he : storedN m ≤ x
    · have c4 : (storedN m : Int) ≤ x := by omega
      have : m ≤ lo := by
        rcases Nat.lt_or_ge lo m with q | q
        · have := stored_mono (n := lo + 1) (m := m) (by omega) (by omega); omega
        · exact q
      simp (maxSteps := 4000000) (disch := omega) [dT, dF, wrap64, c1, c2, c3, hsm, he]
      exact ⟨m, b, ⟨by omega, by omega, by omega⟩, by omega, by simp⟩
    · have c4 : ¬ (storedN m : Int) ≤ x := by omega
      have : lo < m := by
        rcases Nat.lt_or_ge lo m with q | q
        · exact q
        · have := stored_mono (n := m) (m := lo) (by omega) (by omega); omega
      simp (maxSteps := 4000000) (disch := omega) [dT, dF, wrap64, c1, c2, c3, hsm, he]
      exact ⟨a, m, ⟨by omega, by omega, by omega⟩, by omega, by simp⟩
  · have : a = lo := by omega
    subst this
    have c1 : ¬ 1 < (b : Int) - a := by omega
    have hsa := stored_eq a (by omega) σ
    have hl2 : l < 2 ^ 40 := by omega
    have c3 : IntKind.i64.wrap ((x : Int) - (storedN a : Int)) = (l : Int) := by rw [wrap64 (by omega)]; omega
    have c4 : ¬ (l : Int) < 0 := by omega
    have c5 : ((a : Int) + 1).fdiv (2 ^ min l 64) = (g : Int) := by
      rw [show ((a : Int) + 1) = ((a + 1 : Nat) : Int) by omega, fdiv_pow, ← hg]
      by_cases q : l ≤ 64
      · rw [show min l 64 = l by omega]
      · rw [show min l 64 = 64 by omega, Nat.div_eq_of_lt (Nat.lt_of_lt_of_le (by omega : a + 1 < 2 ^ 64) (Nat.le_refl _)), Nat.div_eq_of_lt (Nat.lt_of_lt_of_le (by omega : a + 1 < 2 ^ 64) (Nat.pow_le_pow_right (by omega) (by omega)))]
    have c6 : g ≤ a + 1 := by rw [← hg]; exact Nat.div_le_self _ _
    clear hl2 hc hd hx q1 q2 hb
    have w1 : IntKind.i64.wrap ((b : Int) - a) = (b : Int) - a := wrap64 (by omega)
    have w2 : IntKind.i64.wrap ((a : Int) + 1) = (a : Int) + 1 := wrap64 (by omega)
    have w3 : IntKind.i64.wrap ((g : Int) - 1) = (g : Int) - 1 := wrap64 (by omega)
    have w4 : IntKind.i64.wrap (g : Int) = g := wrap64 (by omega)
    simp (maxSteps := 4000000) [w1, w2, c1, hsa, c3, c4, c5, w3, w4, IntKind.bits, Tryz.results29]
end Go.Proofs.Tryz.Ai
end
section
/- SHA-256: words turned; a block's numbers. -/
namespace Go.Proofs.Tryz.Ai
open Go Go.AI Go.Proofs
set_option maxHeartbeats 400000

def wor (a b : Int) : Int := bits .or .u32 a b
def wxor (a b : Int) : Int := bits .xor .u32 a b
def wand (a b : Int) : Int := bits .and .u32 a b
def wnot (a : Int) : Int := bits .xor .u32 4294967295 a
def wadd (a b : Int) : Int := IntKind.u32.wrap (a + b)
/-- a word turned to the right -/
def rotr (x : Int) (n : Nat) : Int := wor (IntKind.u32.wrap (x * 2 ^ (32 - n))) (x.fdiv (2 ^ n))
def byteI (b : List UInt8) (i : Nat) : Int := ((b.getD i 0).toNat : Int)
def wordAt (b : List UInt8) (i : Nat) : Int :=
  wor (wor (wor (IntKind.u32.wrap (byteI b (4 * i) * 16777216)) (IntKind.u32.wrap (byteI b (4 * i + 1) * 65536))) (IntKind.u32.wrap (byteI b (4 * i + 2) * 256))) (byteI b (4 * i + 3))
def sig0 (x : Int) : Int := wxor (wxor (rotr x 7) (rotr x 18)) (x.fdiv 8)
def sig1 (x : Int) : Int := wxor (wxor (rotr x 17) (rotr x 19)) (x.fdiv 1024)
def nextW (w : List Int) (n : Nat) : Int := wadd (wadd (wadd (w.getD (n - 16) 0) (sig0 (w.getD (n - 15) 0))) (w.getD (n - 7) 0)) (sig1 (w.getD (n - 2) 0))
/-- the first numbers of a block -/
def sched (b : List UInt8) : Nat → List Int
  | 0 => []
  | n + 1 => sched b n ++ [if n < 16 then wordAt b n else nextW (sched b n) n]
theorem sched_len (b : List UInt8) (n : Nat) : (sched b n).length = n := by
  induction n with
  | zero => rfl
  | succ n ih => simp [sched, ih]

theorem or_fold (a b : Int) : bits .or .u32 a b = wor a b := rfl
theorem xor_fold (a b : Int) : bits .xor .u32 a b = wxor a b := rfl
theorem and_fold (a b : Int) : bits .and .u32 a b = wand a b := rfl
theorem add_fold (a b : Int) : IntKind.u32.wrap (a + b) = wadd a b := rfl

theorem rotl_eq (x k : Int) (n : Nat) (hk : bits .and .u64 (IntKind.u64.wrap k) 31 = ((32 - n : Nat) : Int)) (hn : n ≤ 32) (σ) : ev 146 [.int .u32 x, .int .i64 k] σ = some (.int .u32 (rotr x n), σ) := by
  refine EV_post rfl Tryz.func146 rfl (by simp [Tryz.ntmps146]) (by kernel_rfl) (by kernel_rfl) ?_
  have h1 : ¬ ((32 - n : Nat) : Int) < 0 := by omega
  have h2 : IntKind.u64.wrap (32 - ((32 - n : Nat) : Int)) = (n : Int) := by rw [wrapU64 (by omega)]; omega
  have h3 : ¬ (n : Int) < 0 := by omega
  have h4 : min (32 - n) 32 = 32 - n := by omega
  have h5 : min n 32 = n := by omega
  clear hn
  simp [hk, h1, h2, h3, h4, h5, IntKind.bits, Tryz.results146, rotr, wor]

theorem right_eq (x : Int) (n : Nat) (hn : n = 2 ∨ n = 6 ∨ n = 7 ∨ n = 11 ∨ n = 13 ∨ n = 17 ∨ n = 18 ∨ n = 19 ∨ n = 22 ∨ n = 25) (σ) : ev 125 [.int .u32 x, .int .i64 n] σ = some (.int .u32 (rotr x n), σ) := by
  refine EV_post rfl Tryz.func125 rfl (by simp [Tryz.ntmps125]) (by kernel_rfl) (by kernel_rfl) ?_
  have h := rotl_eq x (IntKind.i64.wrap (0 - (n : Int))) n (by rcases hn with rfl | rfl | rfl | rfl | rfl | rfl | rfl | rfl | rfl | rfl <;> decide +kernel) (by omega) σ
  clear hn
  simp at h
  simp [h, Tryz.results125]
end Go.Proofs.Tryz.Ai
end
section
/- SHA-256: a block's numbers, walked. -/
namespace Go.Proofs.Tryz.Ai
open Go Go.AI Go.Proofs
set_option maxHeartbeats 1000000

/-- the array while it is filled -/
def cellsW (b : List UInt8) (n : Nat) : List AV := (sched b n).map (.int .u32) ++ List.replicate (64 - n) (.int .u32 0)
theorem cellsW_len (b : List UInt8) (n : Nat) (h : n ≤ 64) : (cellsW b n).length = 64 := by simp [cellsW, sched_len]; omega
theorem cellsW_get (b : List UInt8) (n j : Nat) (h : j < n) : (cellsW b n)[j]? = some (.int .u32 ((sched b n).getD j 0)) := by
  have hj : j < (sched b n).length := by rw [sched_len]; exact h
  unfold cellsW
  rw [List.getElem?_append_left (by simpa using hj), List.getElem?_map, List.getElem?_eq_getElem hj]
  simp [List.getD, hj]
theorem cellsW_set (b : List UInt8) (n : Nat) (v : Int) (h : n < 64) (hv : v = if n < 16 then wordAt b n else nextW (sched b n) n) : (cellsW b n).take n ++ .int .u32 v :: (cellsW b n).drop (n + 1) = cellsW b (n + 1) := by
  have e : 64 - n = (64 - (n + 1)) + 1 := by omega
  unfold cellsW
  rw [e, List.replicate_succ]
  rw [List.take_append_of_le_length (by simp [sched_len]), List.take_of_length_le (by simp [sched_len])]
  rw [List.drop_append, List.drop_eq_nil_of_le (by simp [sched_len])]
  simp only [List.length_map, sched_len, sched, hv]
  rw [show n + 1 - n = 1 by omega]
  simp

theorem schedule_eq (b : List UInt8) (hb : b.length = 64) (o : Own) (σ) : ev 124 [.sl o (b.map .u8)] σ = some (.agg ((sched b 64).map (.int .u32)), σ) := by
  refine EV_post rfl Tryz.func124 rfl (by simp [Tryz.ntmps124]) (by kernel_rfl) (by kernel_rfl) ?_
  simp
  refine Post_loop (I := fun n : Nat => ⟨[(0, .sl o (b.map .u8)), (2, .lp 2 0), (3, .lp 3 0), (10, .int .i64 n)], [(2, List.replicate 64 (.int .u32 0)), (3, cellsW b n)], σ⟩) (Pr := fun n => n ≤ 64) (μ := fun n => 64 - n) (a := 0) (by simp [cellsW, sched]) (by omega) ?_
  intro n hn
  have hlen := cellsW_len b n hn
  by_cases hc : n < 64
  · have w1 : IntKind.i64.wrap ((n : Int) + 1) = (n : Int) + 1 := wrap64 (by omega)
    have h63 : n ≤ 63 := by omega
    by_cases h16 : n < 16
    · have q1 : (n : Int) < 64 := by omega
      have q2 : (n : Int) < 16 := by omega
      obtain ⟨m, hm⟩ : ∃ m, 4 * n = m := ⟨_, rfl⟩
      have e4 : IntKind.i64.wrap (4 * (n : Int)) = (m : Int) := by rw [wrap64 (by omega)]; omega
      obtain ⟨x0, hx0⟩ : ∃ x, b[m]? = some x := ⟨_, List.getElem?_eq_getElem (by omega)⟩
      obtain ⟨x1, hx1⟩ : ∃ x, b[m + 1]? = some x := ⟨_, List.getElem?_eq_getElem (by omega)⟩
      obtain ⟨x2, hx2⟩ : ∃ x, b[m + 2]? = some x := ⟨_, List.getElem?_eq_getElem (by omega)⟩
      obtain ⟨x3, hx3⟩ : ∃ x, b[m + 3]? = some x := ⟨_, List.getElem?_eq_getElem (by omega)⟩
      have e5 : m ≤ 64 := by omega
      have hset := cellsW_set b n (wordAt b n) hc (by rw [if_pos h16])
      have hw : wordAt b n = wor (wor (wor (IntKind.u32.wrap ((x0.toNat : Int) * 16777216)) (IntKind.u32.wrap ((x1.toNat : Int) * 65536))) (IntKind.u32.wrap ((x2.toNat : Int) * 256))) (x3.toNat : Int) := by
        simp [wordAt, byteI, List.getD, hm, hx0, hx1, hx2, hx3]
      rw [hw] at hset
      clear hw hm
      simp (maxSteps := 4000000) [q1, q2, e4, e5, hb, hx0, hx1, hx2, hx3, wrapU32_byte, hlen, hc, h63, w1, or_fold, IntKind.bits, hset]
      exact ⟨n + 1, by omega, by omega, by simp, rfl⟩
    · have q1 : (n : Int) < 64 := by omega
      have q2 : ¬ (n : Int) < 16 := by omega
      obtain ⟨m1, h1⟩ : ∃ m, n - 15 = m := ⟨_, rfl⟩
      obtain ⟨m2, h2⟩ : ∃ m, n - 2 = m := ⟨_, rfl⟩
      obtain ⟨m3, h3⟩ : ∃ m, n - 16 = m := ⟨_, rfl⟩
      obtain ⟨m4, h4⟩ : ∃ m, n - 7 = m := ⟨_, rfl⟩
      have e1 : IntKind.i64.wrap ((n : Int) - 15) = (m1 : Int) := by rw [wrap64 (by omega)]; omega
      have e2 : IntKind.i64.wrap ((n : Int) - 2) = (m2 : Int) := by rw [wrap64 (by omega)]; omega
      have e3 : IntKind.i64.wrap ((n : Int) - 16) = (m3 : Int) := by rw [wrap64 (by omega)]; omega
      have e4 : IntKind.i64.wrap ((n : Int) - 7) = (m4 : Int) := by rw [wrap64 (by omega)]; omega
      have g1 := cellsW_get b n m1 (by omega)
      have g2 := cellsW_get b n m2 (by omega)
      have g3 := cellsW_get b n m3 (by omega)
      have g4 := cellsW_get b n m4 (by omega)
      have l1 : m1 < 64 := by omega
      have l2 : m2 < 64 := by omega
      have l3 : m3 < 64 := by omega
      have l4 : m4 < 64 := by omega
      have r1 : ∀ x, ev 125 [.int .u32 x, .int .i64 7] σ = some (.int .u32 (rotr x 7), σ) := fun x => right_eq x 7 (by omega) σ
      have r2 : ∀ x, ev 125 [.int .u32 x, .int .i64 18] σ = some (.int .u32 (rotr x 18), σ) := fun x => right_eq x 18 (by omega) σ
      have r3 : ∀ x, ev 125 [.int .u32 x, .int .i64 17] σ = some (.int .u32 (rotr x 17), σ) := fun x => right_eq x 17 (by omega) σ
      have r4 : ∀ x, ev 125 [.int .u32 x, .int .i64 19] σ = some (.int .u32 (rotr x 19), σ) := fun x => right_eq x 19 (by omega) σ
      have hset := cellsW_set b n (nextW (sched b n) n) hc (by rw [if_neg h16])
      unfold nextW sig0 sig1 at hset
      rw [h1, h2, h3, h4] at hset
      generalize (sched b n).getD m1 0 = y1 at *
      generalize (sched b n).getD m2 0 = y2 at *
      generalize (sched b n).getD m3 0 = y3 at *
      generalize (sched b n).getD m4 0 = y4 at *
      clear h1 h2 h3 h4
      simp (maxSteps := 4000000) [-getElem?_pos, q1, q2, e1, e2, e3, e4, g1, g2, g3, g4, l1, l2, l3, l4, r1, r2, r3, r4, hlen, hc, h63, w1, xor_fold, add_fold, IntKind.bits, hset]
      exact ⟨n + 1, by omega, by omega, by simp, rfl⟩
  · have hn64 : n = 64 := by omega
    subst hn64
    have e : cellsW b 64 = (sched b 64).map (.int .u32) := by simp [cellsW]
    rw [e] at hlen ⊢
    have hd : ((sched b 64).map (AV.int .u32)).take 64 = (sched b 64).map (.int .u32) := List.take_of_length_le (by simp [sched_len])
    simp (maxSteps := 4000000) [hlen, Tryz.results124, hd, sched_len]
end Go.Proofs.Tryz.Ai
end
section
/- SHA-256: a block, walked. -/
namespace Go.Proofs.Tryz.Ai
open Go Go.AI Go.Proofs
set_option maxHeartbeats 4000000

structure V8 where
  a : Int
  b : Int
  c : Int
  d : Int
  e : Int
  f : Int
  g : Int
  h : Int
def V8.l (x : V8) : List Int := [x.a, x.b, x.c, x.d, x.e, x.f, x.g, x.h]
def big1 (e : Int) : Int := wxor (wxor (rotr e 6) (rotr e 11)) (rotr e 25)
def big0 (a : Int) : Int := wxor (wxor (rotr a 2) (rotr a 13)) (rotr a 22)
def pick3 (e f g : Int) : Int := wxor (wand e f) (wand (wnot e) g)
def most3 (a b c : Int) : Int := wxor (wxor (wand a b) (wand a c)) (wand b c)
def tmp1 (x : V8) (k w : Int) : Int := wadd (wadd (wadd (wadd x.h (big1 x.e)) (pick3 x.e x.f x.g)) k) w
def roundV (x : V8) (k w : Int) : V8 :=
  ⟨wadd (wadd (tmp1 x k w) (big0 x.a)) (most3 x.a x.b x.c), x.a, x.b, x.c, wadd x.d (tmp1 x k w), x.e, x.f, x.g⟩
def roundsV (s : V8) (K W : List Int) : Nat → V8
  | 0 => s
  | n + 1 => roundV (roundsV s K W n) (K.getD n 0) (W.getD n 0)
def addV (x s : V8) : V8 := ⟨wadd x.a s.a, wadd x.b s.b, wadd x.c s.c, wadd x.d s.d, wadd x.e s.e, wadd x.f s.f, wadd x.g s.g, wadd x.h s.h⟩
def blockV (K : List Int) (s : V8) (b : List UInt8) : V8 := addV (roundsV s K (sched b 64) 64) s

/-- the cells while the sums are made -/
def addC (x s : V8) (i : Nat) : List AV := (((addV x s).l.take i) ++ (x.l.drop i)).map (.int .u32)
theorem addC_len (x s : V8) (i : Nat) : (addC x s i).length = 8 := by
  simp [addC, V8.l]; omega
theorem addC_zero (x s : V8) : addC x s 0 = x.l.map (.int .u32) := rfl
theorem addC_end (x s : V8) : addC x s 8 = (addV x s).l.map (.int .u32) := rfl
theorem addC_step (x s : V8) (i : Nat) (h : i < 8) : ∃ y z, (addC x s i)[i]? = some (.int .u32 y) ∧ (s.l.map (AV.int .u32))[i]? = some (.int .u32 z) ∧
    (addC x s i).take i ++ .int .u32 (wadd y z) :: (addC x s i).drop (i + 1) = addC x s (i + 1) := by
  match i, h with
  | 0, _ => exact ⟨x.a, s.a, rfl, rfl, rfl⟩
  | 1, _ => exact ⟨x.b, s.b, rfl, rfl, rfl⟩
  | 2, _ => exact ⟨x.c, s.c, rfl, rfl, rfl⟩
  | 3, _ => exact ⟨x.d, s.d, rfl, rfl, rfl⟩
  | 4, _ => exact ⟨x.e, s.e, rfl, rfl, rfl⟩
  | 5, _ => exact ⟨x.f, s.f, rfl, rfl, rfl⟩
  | 6, _ => exact ⟨x.g, s.g, rfl, rfl, rfl⟩
  | 7, _ => exact ⟨x.h, s.h, rfl, rfl, rfl⟩

theorem list_get (W : List Int) (n m : Nat) (hw : W.length = m) (h : n < m) : (W.map (AV.int .u32))[n]? = some (.int .u32 (W.getD n 0)) := by
  have hj : n < W.length := by omega
  rw [List.getElem?_map, List.getElem?_eq_getElem hj]
  simp [List.getD, hj]

/-- the cells of eight words -/
def V8.cs (x : V8) : List AV := [.int .u32 x.a, .int .u32 x.b, .int .u32 x.c, .int .u32 x.d, .int .u32 x.e, .int .u32 x.f, .int .u32 x.g, .int .u32 x.h]
theorem V8.cs_eq (x : V8) : x.l.map (.int .u32) = x.cs := rfl

theorem rights (σ : List (List AV)) (x : Int) : ev 125 [.int .u32 x, .int .i64 6] σ = some (.int .u32 (rotr x 6), σ) ∧ ev 125 [.int .u32 x, .int .i64 11] σ = some (.int .u32 (rotr x 11), σ) ∧
    ev 125 [.int .u32 x, .int .i64 25] σ = some (.int .u32 (rotr x 25), σ) ∧ ev 125 [.int .u32 x, .int .i64 2] σ = some (.int .u32 (rotr x 2), σ) ∧
    ev 125 [.int .u32 x, .int .i64 13] σ = some (.int .u32 (rotr x 13), σ) ∧ ev 125 [.int .u32 x, .int .i64 22] σ = some (.int .u32 (rotr x 22), σ) :=
  ⟨right_eq x 6 (by omega) σ, right_eq x 11 (by omega) σ, right_eq x 25 (by omega) σ, right_eq x 2 (by omega) σ, right_eq x 13 (by omega) σ, right_eq x 22 (by omega) σ⟩

theorem block_eq (s : V8) (b : List UInt8) (hb : b.length = 64) (o : Own) (K : List Int) (hK : K.length = 64) (c : Nat) (sh : Option (TypeId × Nat)) (σ) (hc : σ[c]? = some (K.map (.int .u32))) :
    ev 106 [.agg (s.l.map (.int .u32)), .sl o (b.map .u8), .gp c 0 sh] σ = some (.agg ((blockV K s b).l.map (.int .u32)), σ) := by
  refine EV_post rfl Tryz.func106 rfl (by simp [Tryz.ntmps106]) (by kernel_rfl) (by kernel_rfl) ?_
  have hs := schedule_eq b hb .sh σ
  obtain ⟨W, hW⟩ : ∃ W, sched b 64 = W := ⟨_, rfl⟩
  have hWl : W.length = 64 := by rw [← hW, sched_len]
  have hbv : blockV K s b = addV (roundsV s K W 64) s := by unfold blockV; rw [hW]
  rw [hW] at hs
  rw [hbv]
  have hs8 : (s.l.map (AV.int .u32)) = s.cs := rfl
  have hWc : (W.map (AV.int .u32)).length = 64 := by simpa using hWl
  obtain ⟨Wc, hWc2⟩ : ∃ Wc, W.map (AV.int .u32) = Wc := ⟨_, rfl⟩
  rw [hWc2] at hs hWc
  have hWn : ∀ n, n < 64 → Wc[n]? = some (.int .u32 (W.getD n 0)) := fun n hn => by rw [← hWc2]; exact list_get W n 64 hWl hn
  have hKn : ∀ n, n < 64 → (K.map (AV.int .u32))[n]? = some (.int .u32 (K.getD n 0)) := fun n hn => list_get K n 64 hK hn
  obtain ⟨Kc, hKc2⟩ : ∃ Kc, K.map (AV.int .u32) = Kc := ⟨_, rfl⟩
  rw [hKc2] at hc hKn
  have hdem : s.cs.map dem = s.cs := rfl
  have hcsl : s.cs.length = 8 := rfl
  have htk : s.cs.take 8 = s.cs := rfl
  have hdr : s.cs.drop 8 = [] := rfl
  have hWd : Wc.map dem = Wc := by rw [← hWc2]; exact map_dem_int
  have hWt : Wc.take 64 = Wc := List.take_of_length_le (by omega)
  clear hWc2 hKc2 hW hbv hWl
  rw [hs8]
  simp (maxSteps := 4000000) [hs, hdem, hcsl, htk, hdr, hWd, hWt, hWc]
  refine Post_loop (I := fun n : Nat => ⟨[(2, .gp c 0 sh), (3, .lp 3 0), (6, .lp 6 0), (7, .lp 7 0), (8, .lp 8 0), (19, .int .i64 n)], [(3, s.cs), (6, List.replicate 8 (.int .u32 0)), (7, Wc), (8, (roundsV s K W n).cs)], σ⟩) (Pr := fun n => n ≤ 64) (μ := fun n => 64 - n) (a := 0) (by simp [roundsV]) (by omega) ?_
  intro n hn
  obtain ⟨x, hx⟩ : ∃ x, roundsV s K W n = x := ⟨_, rfl⟩
  have hx1 : n < 64 → roundsV s K W (n + 1) = roundV x (K.getD n 0) (W.getD n 0) := fun _ => by rw [roundsV, hx]
  obtain ⟨k, hk⟩ : ∃ k, K.getD n 0 = k := ⟨_, rfl⟩
  obtain ⟨w, hw⟩ : ∃ w, W.getD n 0 = w := ⟨_, rfl⟩
  have hWn' := hWn n
  have hKn' := hKn n
  rw [hw] at hWn' hx1
  rw [hk] at hKn' hx1
  clear hWn hKn hk hw
  by_cases hlt : n < 64
  · have g1 := hWn' hlt
    have g2 := hKn' hlt
    have hstep := hx1 hlt
    clear hWn' hKn' hx1 hs
    have q1 : (n : Int) < 64 := by omega
    have q2 : n ≤ 63 := by omega
    have w1 : IntKind.i64.wrap ((n : Int) + 1) = (n : Int) + 1 := wrap64 (by omega)
    have r1 := fun x => (rights σ x).1
    have r2 := fun x => (rights σ x).2.1
    have r3 := fun x => (rights σ x).2.2.1
    have r4 := fun x => (rights σ x).2.2.2.1
    have r5 := fun x => (rights σ x).2.2.2.2.1
    have r6 := fun x => (rights σ x).2.2.2.2.2
    obtain ⟨Sc, hSc⟩ : ∃ Sc, s.cs = Sc := ⟨_, rfl⟩
    have hxc : (roundsV s K W n).cs = [.int .u32 x.a, .int .u32 x.b, .int .u32 x.c, .int .u32 x.d, .int .u32 x.e, .int .u32 x.f, .int .u32 x.g, .int .u32 x.h] := by rw [hx]; rfl
    have hmax : IntKind.u32.max = 4294967295 := rfl
    have hnot : ∀ a, bits .xor .u32 4294967295 a = wnot a := fun a => rfl
    have hsg : IntKind.u32.signed = false := rfl
    simp only [hxc, hSc]
    simp (maxSteps := 8000000) [-getElem?_pos, List.getElem?_cons_zero, q1, q2, hlt, g1, g2, hc, hWc, w1, r1, r2, r3, r4, r5, r6, hnot, hsg, hmax, xor_fold, and_fold, add_fold]
    exact ⟨n + 1, by omega, by omega, by simp, by rw [hstep]; rfl⟩
  · have hn64 : n = 64 := by omega
    subst hn64
    clear hWn' hKn' hx1 hs
    rw [hx]
    obtain ⟨Sc, hSc⟩ : ∃ Sc, s.cs = Sc := ⟨_, rfl⟩
    have hScl : Sc.length = 8 := by rw [← hSc]; rfl
    have hz := addC_zero x s
    rw [V8.cs_eq] at hz
    simp only [hSc]
    simp (maxSteps := 4000000)
    refine Post_loop (I := fun i : Nat => ⟨[(3, .lp 3 0), (6, .lp 6 0), (8, .lp 8 0), (112, .int .i64 i)], [(3, Sc), (6, List.replicate 8 (.int .u32 0)), (8, addC x s i)], σ⟩) (Pr := fun i => i ≤ 8) (μ := fun i => 8 - i) (a := 0) (by simp [hz]) (by omega) ?_
    intro i hi
    have hl8 := addC_len x s i
    by_cases hi8 : i < 8
    · obtain ⟨y, z, e1, e2, e3⟩ := addC_step x s i hi8
      rw [hs8, hSc] at e2
      have q1 : (i : Int) < 8 := by omega
      have q2 : i ≤ 7 := by omega
      have w1 : IntKind.i64.wrap ((i : Int) + 1) = (i : Int) + 1 := wrap64 (by omega)
      simp (maxSteps := 4000000) [-getElem?_pos, List.getElem?_cons_zero, q1, q2, hi8, e1, e2, hl8, hScl, w1, add_fold, e3]
      exact ⟨i + 1, by omega, by omega, by simp, rfl⟩
    · have hi8 : i = 8 := by omega
      subst hi8
      obtain ⟨R, hR⟩ : ∃ R, addC x s 8 = R := ⟨_, rfl⟩
      have hRe : (addV x s).l.map (AV.int .u32) = R := by rw [← addC_end, hR]
      have hRd : R.map dem = R := by rw [← hRe]; exact map_dem_int
      rw [hR] at hl8
      have hRt : R.take 8 = R := List.take_of_length_le (by omega)
      have hRdr : R.drop 8 = [] := List.drop_eq_nil_of_le (by omega)
      simp only [hR, hRe]
      simp (maxSteps := 4000000) [hl8, hRd, hRt, hRdr, Tryz.results106]
end Go.Proofs.Tryz.Ai
end
section
/- SHA-256, walked. -/
namespace Go.Proofs.Tryz.Ai
open Go Go.AI Go.Proofs
set_option maxHeartbeats 4000000

def kConst : List Int := [1116352408, 1899447441, 3049323471, 3921009573, 961987163, 1508970993, 2453635748, 2870763221,
  3624381080, 310598401, 607225278, 1426881987, 1925078388, 2162078206, 2614888103, 3248222580,
  3835390401, 4022224774, 264347078, 604807628, 770255983, 1249150122, 1555081692, 1996064986,
  2554220882, 2821834349, 2952996808, 3210313671, 3336571891, 3584528711, 113926993, 338241895,
  666307205, 773529912, 1294757372, 1396182291, 1695183700, 1986661051, 2177026350, 2456956037,
  2730485921, 2820302411, 3259730800, 3345764771, 3516065817, 3600352804, 4094571909, 275423344,
  430227734, 506948616, 659060556, 883997877, 958139571, 1322822218, 1537002063, 1747873779,
  1955562222, 2024104815, 2227730452, 2361852424, 2428436474, 2756734187, 3204031479, 3329325298]
def vInit : V8 := ⟨1779033703, 3144134277, 1013904242, 2773480762, 1359893119, 2600822924, 528734635, 1541459225⟩
def blocksV (s : V8) (b : List UInt8) : Nat → V8
  | 0 => s
  | n + 1 => blockV kConst (blocksV s b n) ((b.drop (64 * n)).take 64)
/-- how many zeros are laid behind a text of so many bytes and the one -/
def padN (n : Nat) : Nat := (119 - n % 64) % 64
def b8 (x : Int) : UInt8 := UInt8.ofNat (IntKind.u8.wrap x).toNat
def lenB (n k : Nat) : List UInt8 := (List.range k).map fun i => b8 (((8 * n : Nat) : Int).fdiv (2 ^ (56 - 8 * i)))
def tailB (b : List UInt8) : List UInt8 := b.drop (b.length / 64 * 64) ++ [128] ++ List.replicate (padN b.length) 0 ++ lenB b.length 8
def out4 (x : Int) : List UInt8 := [b8 (x.fdiv 16777216), b8 (x.fdiv 65536), b8 (x.fdiv 256), b8 x]
def sha256 (b : List UInt8) : List UInt8 := (blocksV (blocksV vInit b (b.length / 64)) (tailB b) ((tailB b).length / 64)).l.flatMap out4

theorem b8_wrap (x : Int) : IntKind.u8.wrap x = ((b8 x).toNat : Int) := by
  have : 0 ≤ IntKind.u8.wrap x ∧ IntKind.u8.wrap x < 256 := by simp only [IntKind.wrap, IntKind.signed, IntKind.bits]; simp; omega
  unfold b8
  rw [UInt8.toNat_ofNat']
  omega

theorem constants_eq (σ) : ev 104 [] σ = some (.agg (kConst.map (.int .u32)), σ) := by
  refine EV_post rfl Tryz.func104 rfl (by simp [Tryz.ntmps104]) (by kernel_rfl) (by kernel_rfl) ?_
  refine Post_seq (Post_reg (st1 := ⟨[(0, .lp 0 0)], [(0, List.replicate 64 (.int .u32 0))], σ⟩) (by kernel_rfl) ?_)
  refine Post_seq (Post_reg (st1 := ⟨[(0, .lp 0 0), (1, .agg (kConst.map (.int .u32)))], [(0, kConst.map (.int .u32))], σ⟩) (by kernel_rfl) ?_)
  obtain ⟨R, hR⟩ : ∃ R, kConst.map (AV.int .u32) = R := ⟨_, rfl⟩
  have hRd : R.map dem = R := by rw [← hR]; exact map_dem_int
  have hl : R.length = 64 := by rw [← hR]; rfl
  have hRt : R.take 64 = R := List.take_of_length_le (by omega)
  rw [hR]
  simp (maxSteps := 4000000) [Tryz.results104, hRd, hl, hRt]
theorem initial_eq (σ) : ev 105 [] σ = some (.agg (vInit.l.map (.int .u32)), σ) := by
  refine EV_post rfl Tryz.func105 rfl (by simp [Tryz.ntmps105]) (by kernel_rfl) (by kernel_rfl) ?_
  simp (maxSteps := 4000000) [Tryz.results105]
  rfl
theorem fresh_eq (o : Own) (l : List UInt8) (hl : l.length ≤ 1099511627776) (σ) : ev 107 [.sl o (l.map .u8)] σ = some (.sl (.ex 5 1) (l.map .u8), σ) := by
  refine EV_post rfl Tryz.func107 rfl (by simp [Tryz.ntmps107]) (by kernel_rfl) (by kernel_rfl) ?_
  have h0 : ¬ (l.length : Int) < 0 := by omega
  simp (maxSteps := 4000000) [Tryz.results107, most, hl]
end Go.Proofs.Tryz.Ai
end
section
/- SHA-256, walked. -/
namespace Go.Proofs.Tryz.Ai
open Go Go.AI Go.Proofs
set_option maxHeartbeats 4000000

theorem cs_facts (x : V8) : x.cs.length = 8 ∧ x.cs.map dem = x.cs ∧ x.cs.take 8 = x.cs ∧ x.cs.drop 8 = [] := ⟨rfl, rfl, rfl, rfl⟩

theorem block_cs (s : V8) (b : List UInt8) (hb : b.length = 64) (o : Own) (c : Nat) (sh : Option (TypeId × Nat)) (σ) (hc : σ[c]? = some (kConst.map (.int .u32))) :
    ev 106 [.agg s.cs, .sl o (b.map .u8), .gp c 0 sh] σ = some (.agg (blockV kConst s b).cs, σ) := block_eq s b hb o kConst rfl c sh σ hc

theorem lenB_succ (n i : Nat) : lenB n (i + 1) = lenB n i ++ [b8 (((8 * n : Nat) : Int).fdiv (2 ^ (56 - 8 * i)))] := by simp [lenB, List.range_succ]
theorem cs_get (x : V8) (j : Nat) (h : j < 8) : x.cs[j]? = some (.int .u32 (x.l.getD j 0)) := list_get x.l j 8 rfl h
theorem out_succ (x : V8) (j : Nat) (h : j < 8) : (x.l.take (j + 1)).flatMap out4 = (x.l.take j).flatMap out4 ++ out4 (x.l.getD j 0) := by
  have hl : j < x.l.length := h
  rw [List.take_succ_eq_append_getElem hl, List.flatMap_append]
  simp [List.getD, hl]
theorem padN_eq (n k : Nat) (h : k ≤ padN n) : (n % 64 + 1 + k) % 64 = 56 ↔ k = padN n := by unfold padN at *; omega
theorem tailB_len (b : List UInt8) : (tailB b).length % 64 = 0 ∧ (tailB b).length ≤ 128 := by
  have h1 : (tailB b).length = (b.length - b.length / 64 * 64) + 1 + padN b.length + 8 := by simp [tailB, lenB]; omega
  rw [h1]; unfold padN; omega

theorem SHA256_eq (o : Own) (b : List UInt8) (hl : b.length ≤ 1073741824) (σ) : ev 70 [.sl o (b.map .u8)] σ = some (.sl (.ex 5 1) ((sha256 b).map .u8), σ) := by
  refine EV_post rfl Tryz.func70 rfl (by simp [Tryz.ntmps70]) (by kernel_rfl) (by kernel_rfl) ?_
  have hk := constants_eq σ
  have hi : ev 105 [] (σ ++ [kConst.map (.int .u32)]) = some (.agg vInit.cs, σ ++ [kConst.map (.int .u32)]) := initial_eq _
  have hblk := fun (s : V8) (b : List UInt8) (hb : b.length = 64) => block_cs s b hb .sh σ.length (some (131, 64)) (σ ++ [kConst.map (.int .u32)]) (by simp)
  obtain ⟨K, hK⟩ : ∃ K, kConst.map (AV.int .u32) = K := ⟨_, rfl⟩
  have hKd : K.map dem = K := by rw [← hK]; exact map_dem_int
  have hKl : K.length = 64 := by rw [← hK]; rfl
  have hKt : K.take 64 = K := List.take_of_length_le (by omega)
  have hKdr : K.drop 64 = [] := List.drop_eq_nil_of_le (by omega)
  have hKq : lowL σ.length K := by rw [← hK]; simp
  rw [hK] at hk hi hblk
  clear hK
  obtain ⟨i1, i2, i3, i4⟩ := cs_facts vInit
  obtain ⟨W, hW⟩ : ∃ W, b.length / 64 = W := ⟨_, rfl⟩
  have e1 : IntKind.i64.wrap ((b.length : Int) / 64) = (W : Int) := by rw [wrap64 (by omega)]; omega
  obtain ⟨W6, hW6⟩ : ∃ W6, W * 64 = W6 := ⟨_, rfl⟩
  have e2 : IntKind.i64.wrap ((W : Int) * 64) = (W6 : Int) := by rw [wrap64 (by omega)]; omega
  simp (maxSteps := 4000000) [hk, hi, hKd, hKl, hKt, hKdr, i1, i2, i3, i4, e1, e2]
  clear hk hi i1 i2 i3 i4 e1 e2
  -- the whole blocks
  refine Post_loop (I := fun p : Nat × Nat => ⟨[(0, .sl o (b.map .u8)), (3, .gp σ.length 0 (some (131, 64))), (4, .lp 4 0), (5, .int .i64 W6), (6, .int .i64 p.2)], [(4, (blocksV vInit b p.1).cs)], σ ++ [K]⟩)
    (Pr := fun p => p.2 = 64 * p.1 ∧ p.1 ≤ W) (μ := fun p => W - p.1) (a := (0, 0)) (by simp [blocksV]) (by simp) ?_
  rintro ⟨n, m⟩ ⟨hm, hn⟩
  simp only at hm hn ⊢
  obtain ⟨x, hx⟩ : ∃ x, blocksV vInit b n = x := ⟨_, rfl⟩
  obtain ⟨i1, i2, i3, i4⟩ := cs_facts x
  rw [hx]
  by_cases hc : m < W6
  · have q1 : (m : Int) < W6 := by omega
    have q2 : m + 64 ≤ b.length := by omega
    have w1 : IntKind.i64.wrap ((m : Int) + 64) = ((m + 64 : Nat) : Int) := by rw [wrap64 (by omega)]; omega
    have hb := hblk x ((b.drop m).take 64) (by simp; omega)
    obtain ⟨y, hy⟩ : ∃ y, blockV kConst x ((b.drop m).take 64) = y := ⟨_, rfl⟩
    rw [hy] at hb
    obtain ⟨j1, j2, j3, j4⟩ := cs_facts y
    obtain ⟨m2, hm2⟩ : ∃ m2, m + 64 = m2 := ⟨_, rfl⟩
    have hsl : ((b.map AV.u8).take m2).drop m = (((b.drop m).take 64).map AV.u8) := by
      rw [← hm2, List.drop_take, show m + 64 - m = 64 by omega, List.map_take, List.map_drop]
    have q3 : m ≤ m2 := by omega
    rw [hm2] at q2 w1
    have hfin : blocksV vInit b (n + 1) = y := by rw [blocksV, hx, ← hy, hm]
    clear hblk
    simp (maxSteps := 4000000) [-List.map_take, -List.map_drop, q1, q2, q3, w1, hb, i1, i2, i3, i4, j1, j2, j3, j4, hKl, hsl]
    exact ⟨n + 1, m2, ⟨by omega, by omega⟩, by omega, rfl, by rw [hfin]⟩
  have hnW : n = W := by omega
  subst hnW
  obtain rfl : m = W6 := by omega
  have c1 : ¬ (m : Int) < m := by omega
  have hdl : (b.drop m).length = b.length - m := by simp
  have hfr := fresh_eq .sh (b.drop m) (by omega) (σ ++ [K])
  have hsl : (b.map AV.u8).drop m = (b.drop m).map AV.u8 := by rw [List.map_drop]
  have q1 : m ≤ b.length := by omega
  obtain ⟨D, hD⟩ : ∃ D, b.drop m = D := ⟨_, rfl⟩
  rw [hD] at hfr hsl hdl
  have q2 : D.length + 1 ≤ most := by unfold most; omega
  have q3 : D.length + 1 = b.length % 64 + 1 := by omega
  simp (maxSteps := 4000000) [-List.map_take, -List.map_drop, c1, hsl, hfr, q1, q2]
  clear hfr hsl c1
  -- zeros
  refine Post_loop (I := fun k : Nat => ⟨[(0, .sl o (b.map .u8)), (3, .gp σ.length 0 (some (131, 64))), (4, .lp 4 0), (7, .sl (.ex 5 1) ((D ++ [128] ++ List.replicate k 0).map .u8))], [(4, x.cs)], σ ++ [K]⟩)
    (Pr := fun k => k ≤ padN b.length) (μ := fun k => padN b.length - k) (a := 0) (by simp) (by omega) ?_
  intro k hk
  have hp64 : padN b.length < 64 := Nat.mod_lt _ (by omega)
  have hpe := padN_eq b.length k hk
  obtain ⟨L, hL⟩ : ∃ L, D ++ [128] ++ List.replicate k 0 = L := ⟨_, rfl⟩
  have hLl : L.length = b.length % 64 + 1 + k := by rw [← hL]; simp; omega
  simp only [hL]
  by_cases hc : k = padN b.length
  rotate_left
  · have c1 : ¬ ((L.length : Int).tmod 64 = 56) := by rw [Int.tmod_eq_emod_of_nonneg (by omega), hLl]; omega
    have q4 : L.length + 1 ≤ most := by unfold most; omega
    simp (maxSteps := 4000000) [c1, q4]
    refine ⟨k + 1, by omega, by omega, ?_⟩
    rw [← hL, List.replicate_succ']; simp
  have c1 : ((L.length : Int).tmod 64 = 56) := by rw [Int.tmod_eq_emod_of_nonneg (by omega), hLl]; omega
  simp (maxSteps := 4000000) [c1]
  clear c1
  -- the length
  refine Post_loop (I := fun i : Nat => ⟨[(0, .sl o (b.map .u8)), (3, .gp σ.length 0 (some (131, 64))), (4, .lp 4 0), (7, .sl (.ex 5 1) ((L ++ lenB b.length i).map .u8)), (44, .int .i64 i)], [(4, x.cs)], σ ++ [K]⟩)
    (Pr := fun i => i ≤ 8) (μ := fun i => 8 - i) (a := 0) (by simp [lenB]) (by omega) ?_
  intro i hi
  obtain ⟨M, hM⟩ : ∃ M, L ++ lenB b.length i = M := ⟨_, rfl⟩
  have hMl : M.length = L.length + i := by rw [← hM]; simp [lenB]
  simp only [hM]
  by_cases hi8 : i < 8
  · have q4 : (i : Int) < 8 := by omega
    obtain ⟨j, hj⟩ : ∃ j, 56 - 8 * i = j := ⟨_, rfl⟩
    have e1 : IntKind.i64.wrap (56 - 8 * (i : Int)) = (j : Int) := by rw [wrap64 (by omega)]; omega
    have e2 : IntKind.i64.wrap (8 * (i : Int)) = 8 * (i : Int) := wrap64 (by omega)
    have e3 : IntKind.i64.wrap (8 * (b.length : Int)) = 8 * (b.length : Int) := wrap64 (by omega)
    have e4 : IntKind.i64.wrap ((i : Int) + 1) = (i : Int) + 1 := wrap64 (by omega)
    have q5 : ¬ (j : Int) < 0 := by omega
    have q6 : min j 64 = j := by omega
    have q7 : M.length + 1 ≤ most := by unfold most; omega
    have hfin := lenB_succ b.length i
    rw [hj] at hfin
    clear hblk
    simp (maxSteps := 4000000) [q4, e1, e2, e3, e4, q5, q6, q7, IntKind.bits]
    refine ⟨i + 1, by omega, by omega, ?_, by omega⟩
    rw [hfin, ← hM]
    simp [b8_wrap]
  have hi8' : i = 8 := by omega
  subst hi8'
  have c1 : ¬ ((8 : Nat) : Int) < 8 := by omega
  have hT : tailB b = M := by
    rw [← hM, ← hL, ← hD, ← hW6, ← hW, hc]; rfl
  have hTl := tailB_len b
  rw [hT] at hTl
  simp (maxSteps := 4000000)
  -- the last blocks
  obtain ⟨V, hV⟩ : ∃ V, M.length / 64 = V := ⟨_, rfl⟩
  refine Post_loop (I := fun p : Nat × Nat => ⟨[(3, .gp σ.length 0 (some (131, 64))), (4, .lp 4 0), (7, .sl (.ex 5 1) (M.map .u8)), (9, .int .i64 p.2)], [(4, (blocksV x M p.1).cs)], σ ++ [K]⟩)
    (Pr := fun p => p.2 = 64 * p.1 ∧ p.1 ≤ V) (μ := fun p => V - p.1) (a := (0, 0)) (by simp [blocksV]) (by simp) ?_
  rintro ⟨n2, m3⟩ ⟨hm3, hn2⟩
  simp only at hm3 hn2 ⊢
  obtain ⟨z, hz⟩ : ∃ z, blocksV x M n2 = z := ⟨_, rfl⟩
  obtain ⟨i1, i2, i3, i4⟩ := cs_facts z
  rw [hz]
  by_cases hc2 : m3 < M.length
  · have q1 : (m3 : Int) < M.length := by omega
    have q2 : m3 + 64 ≤ M.length := by omega
    have w1 : IntKind.i64.wrap ((m3 : Int) + 64) = ((m3 + 64 : Nat) : Int) := by rw [wrap64 (by omega)]; omega
    have hb := hblk z ((M.drop m3).take 64) (by simp; omega)
    obtain ⟨y, hy⟩ : ∃ y, blockV kConst z ((M.drop m3).take 64) = y := ⟨_, rfl⟩
    rw [hy] at hb
    obtain ⟨j1, j2, j3, j4⟩ := cs_facts y
    obtain ⟨m2, hm2⟩ : ∃ m2, m3 + 64 = m2 := ⟨_, rfl⟩
    have hsl : ((M.map AV.u8).take m2).drop m3 = (((M.drop m3).take 64).map AV.u8) := by
      rw [← hm2, List.drop_take, show m3 + 64 - m3 = 64 by omega, List.map_take, List.map_drop]
    have q3 : m3 ≤ m2 := by omega
    rw [hm2] at q2 w1
    have hfin : blocksV x M (n2 + 1) = y := by rw [blocksV, hz, ← hy, hm3]
    clear hblk
    simp (maxSteps := 4000000) [-List.map_take, -List.map_drop, hc2, q1, q2, q3, w1, hb, i1, i2, i3, i4, j1, j2, j3, j4, hKl, hsl]
    exact ⟨n2 + 1, m2, ⟨by omega, by omega⟩, by omega, rfl, by rw [hfin]⟩
  have hm3M : m3 = M.length := by omega
  have hn2V : n2 = V := by omega
  subst hm3M; subst hn2V
  have c2 : ¬ (M.length : Int) < M.length := by omega
  clear hblk
  simp (maxSteps := 4000000) [c2, i1, i2, i3, i4]
  -- what is handed back
  refine Post_loop (I := fun j : Nat => ⟨[(10, .sl (.ex 5 1) (((z.l.take j).flatMap out4).map .u8)), (72, .agg z.cs), (73, .int .i64 j)], [], σ ++ [K]⟩)
    (Pr := fun j => j ≤ 8) (μ := fun j => 8 - j) (a := 0) (by simp) (by omega) ?_
  intro j hj
  obtain ⟨R, hR⟩ : ∃ R, (z.l.take j).flatMap out4 = R := ⟨_, rfl⟩
  have hRl : R.length ≤ 32 := by
    rw [← hR]
    have : ∀ l : List Int, (l.flatMap out4).length = 4 * l.length := by
      intro l
      induction l with
      | nil => rfl
      | cons a r ih => rw [List.flatMap_cons, List.length_append, ih]; simp [out4]; omega
    rw [this]; simp [V8.l]; omega
  simp only [hR]
  by_cases hj8 : j < 8
  · have q1 : (j : Int) < 8 := by omega
    have q2 : j ≤ 7 := by omega
    have g := cs_get z j hj8
    obtain ⟨v, hv⟩ : ∃ v, z.l.getD j 0 = v := ⟨_, rfl⟩
    have hfin := out_succ z j hj8
    rw [hv] at g hfin
    have e4 : IntKind.i64.wrap ((j : Int) + 1) = (j : Int) + 1 := wrap64 (by omega)
    have q7 : R.length + 4 ≤ most := by unfold most; omega
    simp (maxSteps := 4000000) [-getElem?_pos, List.getElem?_cons_zero, q1, q2, hj8, g, e4, i1, q7, IntKind.bits]
    refine ⟨j + 1, by omega, by omega, ?_, by omega⟩
    rw [hfin, hR]
    simp [out4, b8_wrap]
  have hj8' : j = 8 := by omega
  subst hj8'
  have hfin : sha256 b = R := by
    rw [← hR]
    unfold sha256
    rw [hW, hx, hT, hV, hz]
    rfl
  rw [hfin]
  simp (maxSteps := 4000000) [Tryz.results70]

theorem sha256_len (b : List UInt8) : (sha256 b).length = 32 := rfl
end Go.Proofs.Tryz.Ai
end
section
/- ark.Hex. -/
namespace Go.Proofs.Tryz.Ai
open Go Go.AI Go.Proofs
set_option maxHeartbeats 1000000
set_option linter.unusedVariables false

def hexDigit (n : Nat) : UInt8 := [48, 49, 50, 51, 52, 53, 54, 55, 56, 57, 97, 98, 99, 100, 101, 102].getD n 0
def hexB (b : UInt8) : List UInt8 := [hexDigit (b.toNat / 16), hexDigit (b.toNat % 16)]
def hexL (l : List UInt8) : List UInt8 := l.flatMap hexB
theorem hexL_len (l : List UInt8) : (hexL l).length = 2 * l.length := by
  induction l with
  | nil => rfl
  | cons a r ih => simp only [hexL, List.flatMap_cons, List.length_append, List.length_cons] at ih ⊢; rw [ih]; simp [hexB]; omega
theorem hexL_succ (l : List UInt8) (i : Nat) (h : i < l.length) : hexL (l.take (i + 1)) = hexL (l.take i) ++ hexB l[i] := by
  rw [List.take_succ_eq_append_getElem h]; simp only [hexL, List.flatMap_append, List.flatMap_cons, List.flatMap_nil, List.append_nil]

theorem Hex_eq (o : Own) (l : List UInt8) (hl : l.length ≤ 2 ^ 30) (σ) : ev 26 [.sl o (l.map .u8)] σ = some (.str (hexL l), σ) := by
  have hw := fun (q : Option (List UInt8)) (c : UInt8) (h : (txt q).length + 1 ≤ most) => WriteByte_eq σ [] q h c
  have hs := fun (q : Option (List UInt8)) => String_eq σ [] q
  refine EV_post rfl Tryz.func26 rfl (by simp [Tryz.ntmps26]) (by kernel_rfl) (by kernel_rfl) ?_
  simp (maxSteps := 4000000) (disch := omega) [dT, dF, wrap64]
  refine Post_loop (I := fun p : Nat × Option (List UInt8) => ⟨[(3, .gp σ.length 0 (some (SB, 2))), (6, .sl o (l.map .u8)), (7, .int .i64 l.length), (8, .int .i64 p.1)], [], σ ++ [bc σ.length p.2]⟩)
    (Pr := fun p => p.1 ≤ l.length ∧ txt p.2 = hexL (l.take p.1)) (μ := fun p => l.length - p.1) (a := (0, none)) (by simp [bc, SB]) (by simp [hexL]) ?_
  rintro ⟨i, q⟩ ⟨hi, hq⟩
  simp only at hi hq ⊢
  have hql : (txt q).length ≤ 2 ^ 31 := by rw [hq, hexL_len]; simp; omega
  by_cases hc : i < l.length
  · have q1 : (i : Int) < l.length := by omega
    obtain ⟨x, hx⟩ : ∃ x, l[i] = x := ⟨_, rfl⟩
    have hx2 : l[i]? = some x := by rw [← hx]; exact List.getElem?_eq_getElem hc
    have hb : (x.toNat) < 256 := x.toNat_lt
    have e0 : IntKind.i64.wrap ((i : Int) + 1) = (i : Int) + 1 := wrap64 (by omega)
    have hd : ∀ n : Nat, n < 16 → ([48, 49, 50, 51, 52, 53, 54, 55, 56, 57, 97, 98, 99, 100, 101, 102] : List UInt8)[n]? = some (hexDigit n) := by decide
    obtain ⟨m1, hm1⟩ : ∃ m, x.toNat / 16 = m := ⟨_, rfl⟩
    obtain ⟨m2, hm2⟩ : ∃ m, x.toNat % 16 = m := ⟨_, rfl⟩
    have e1 : IntKind.u8.wrap ((x.toNat : Int) / 16) = (m1 : Int) := by rw [wrapU8 (by omega)]; omega
    have e2 : (x.toNat : Int).tmod 16 = (m2 : Int) := by rw [Int.tmod_eq_emod_of_nonneg (by omega)]; omega
    have d1 := hd m1 (by omega)
    have d2 := hd m2 (by omega)
    have w1 := hw q (hexDigit m1) (by unfold most; omega)
    have w2 := hw (some (txt q ++ [hexDigit m1])) (hexDigit m2) (by simp; unfold most; omega)
    simp only [AV.u8] at w1 w2
    have hfin := hexL_succ l i hc
    rw [hx] at hfin
    clear hd hw
    simp (maxSteps := 4000000) [-getElem?_pos, List.getElem?_cons_zero, q1, hc, hx2, e0, e1, e2, d1, d2, w1, w2]
    refine ⟨i + 1, some (txt (some (txt q ++ [hexDigit m1])) ++ [hexDigit m2]), ⟨by omega, ?_⟩, by omega, by omega, by simp⟩
    rw [hfin, ← hq]
    simp [hexB, hm1, hm2]
  · have hi' : i = l.length := by omega
    subst hi'
    have c1 : ¬ (l.length : Int) < l.length := by omega
    simp only [List.take_length] at hq
    simp (maxSteps := 4000000) [c1, hs, hq, Tryz.results26]
end Go.Proofs.Tryz.Ai
end
section
/- mewslaw7.first answers yes. -/
namespace Go.Proofs.Tryz.Ai
open Go Go.AI Go.Proofs
set_option maxHeartbeats 4000000
set_option linter.unusedVariables false

theorem Leaf_eq (o : Own) (l : List UInt8) (hl : l.length + 1 ≤ 2 ^ 30) (σ) : ev 27 [.sl o (l.map .u8)] σ = some (.sl (.ex 5 1) ((sha256 (0 :: l)).map .u8), σ) := by
  have h1 := fun σ => SHA256_eq .sh (0 :: l) (by simp; omega) σ
  have h2 : 1 + l.length ≤ most := by unfold most; omega
  refine EV_post rfl Tryz.func27 rfl (by simp [Tryz.ntmps27]) (by kernel_rfl) (by kernel_rfl) ?_
  simp only [List.map_cons, AV.u8, show ((UInt8.toNat 0 : Nat) : Int) = 0 from rfl] at h1
  simp (maxSteps := 4000000) [List.getElem?_cons_zero, List.getElem?_cons_succ, h1, h2, Tryz.results27]
theorem within_54 (σ) : ev 44 [.int .i64 5, .int .i64 0, .int .i64 4] σ = some (.bool true, σ) := by
  refine EV_post rfl Tryz.func44 rfl (by simp [Tryz.ntmps44]) (by kernel_rfl) (by kernel_rfl) ?_
  have w : (Int.fdiv 5 (2 ^ 0)) = 5 := by decide
  simp (maxSteps := 4000000) [List.getElem?_cons_zero, List.getElem?_cons_succ, Tryz.results44, w, IntKind.bits, IntKind.wrap, IntKind.signed]
theorem wide_51 (σ) : ev 45 [.int .i64 2, .int .i64 5, .int .i64 0, .int .i64 1] σ = some (.agg [.int .i64 2, .int .i64 0, .int .i64 1, .int .i64 1], σ) := by
  refine EV_post rfl Tryz.func45 rfl (by simp [Tryz.ntmps45]) (by kernel_rfl) (by kernel_rfl) ?_
  simp (maxSteps := 4000000) [List.getElem?_cons_zero, List.getElem?_cons_succ, Tryz.results45, IntKind.bits, IntKind.wrap, IntKind.signed]
theorem TileOf_54 (σ) : ev 10 [.int .i64 2, .int .i64 5, .int .i64 0, .int .i64 4] σ = some (.tup [.agg [.int .i64 2, .int .i64 0, .int .i64 1, .int .i64 1], .int .i64 0], σ) := by
  refine EV_post rfl Tryz.func10 rfl (by simp [Tryz.ntmps10]) (by kernel_rfl) (by kernel_rfl) ?_
  simp (maxSteps := 4000000) [List.getElem?_cons_zero, List.getElem?_cons_succ, within_54, wide_51, Tryz.results10, IntKind.bits, IntKind.wrap, IntKind.signed]
end Go.Proofs.Tryz.Ai
end
section
/- mewslaw7.first answers yes. -/
namespace Go.Proofs.Tryz.Ai
open Go Go.AI Go.Proofs
set_option maxRecDepth 2000
set_option maxHeartbeats 400000
set_option linter.unusedVariables false

theorem fits_51 (σ) : ev 49 [.agg [.int .i64 2, .int .i64 0, .int .i64 1, .int .i64 1]] σ = some (.bool true, σ) := by
  refine EV_post rfl Tryz.func49 rfl (by simp [Tryz.ntmps49]) (by kernel_rfl) (by kernel_rfl) ?_
  refine Post_seq (Post_reg (st1 := ⟨[(0, .agg [.int .i64 2, .int .i64 0, .int .i64 1, .int .i64 1]), (1, .lp 1 0), (2, .bool false)], [(1, [.int .i64 2, .int .i64 0, .int .i64 1, .int .i64 1])], σ⟩) (by kernel_rfl) ?_)
  refine Post_seq (Post_draw [] ⟨[(0, .agg [.int .i64 2, .int .i64 0, .int .i64 1, .int .i64 1]), (1, .lp 1 0), (2, .bool false)], [(1, [.int .i64 2, .int .i64 0, .int .i64 1, .int .i64 1])], σ⟩ ⟨[(0, .agg [.int .i64 2, .int .i64 0, .int .i64 1, .int .i64 1]), (1, .lp 1 0), (2, .bool true)], [(1, [.int .i64 2, .int .i64 0, .int .i64 1, .int .i64 1])], σ⟩ rfl (by kernel_rfl) ?_ ?_)
  · simp [IntKind.bits, wrap64]
  · simp [Tryz.results49]
theorem in_51 (σ) : ev 47 [.agg [.int .i64 2, .int .i64 0, .int .i64 1, .int .i64 1], .int .i64 1048576] σ = some (.bool true, σ) := by
  have hw : ∀ σ, ev 44 [.int .i64 1048576, .int .i64 0, .int .i64 4] σ = some (.bool true, σ) := by
    intro σ
    refine EV_post rfl Tryz.func44 rfl (by simp [Tryz.ntmps44]) (by kernel_rfl) (by kernel_rfl) ?_
    have w : (Int.fdiv 1048576 (2 ^ 0)) = 1048576 := by decide
    simp (maxSteps := 4000000) [List.getElem?_cons_zero, List.getElem?_cons_succ, Tryz.results44, w, IntKind.bits, wrap64]
  refine EV_post rfl Tryz.func47 rfl (by simp [Tryz.ntmps47]) (by kernel_rfl) (by kernel_rfl) ?_
  refine Post_seq (Post_reg (st1 := ⟨[(0, .agg [.int .i64 2, .int .i64 0, .int .i64 1, .int .i64 1]), (1, .int .i64 1048576), (2, .lp 2 0), (4, .bool false)], [(2, [.int .i64 2, .int .i64 0, .int .i64 1, .int .i64 1])], σ⟩) (by kernel_rfl) ?_)
  refine Post_seq (Post_draw [] ⟨[(0, .agg [.int .i64 2, .int .i64 0, .int .i64 1, .int .i64 1]), (1, .int .i64 1048576), (2, .lp 2 0), (4, .bool false)], [(2, [.int .i64 2, .int .i64 0, .int .i64 1, .int .i64 1])], σ⟩ ⟨[(0, .agg [.int .i64 2, .int .i64 0, .int .i64 1, .int .i64 1]), (1, .int .i64 1048576), (2, .lp 2 0), (4, .bool true)], [(2, [.int .i64 2, .int .i64 0, .int .i64 1, .int .i64 1])], σ⟩ rfl (by kernel_rfl) ?_ ?_)
  · simp [IntKind.bits, wrap64, fits_51, hw]
  · simp [Tryz.results47]
theorem three_1 (σ) : ev 53 [.int .i64 1] σ = some (.str [48, 48, 49], σ) := by
  have h1 : ∀ σ, ev 54 [.int .i64 1] σ = some (.str [49], σ) := fun σ => Itoa_dig 1 (by omega) σ
  have h2 := Repeat_zeros
  refine EV_post rfl Tryz.func53 rfl (by simp [Tryz.ntmps53]) (by kernel_rfl) (by kernel_rfl) ?_
  simp (maxSteps := 4000000) [List.getElem?_cons_zero, List.getElem?_cons_succ, h1, h2, Tryz.results53, wrap64, most]
end Go.Proofs.Tryz.Ai
end
section
/- mewslaw7.first answers yes. -/
namespace Go.Proofs.Tryz.Ai
open Go Go.AI Go.Proofs
set_option maxRecDepth 2000
set_option maxHeartbeats 400000
set_option linter.unusedVariables false

theorem Path_51 (σ) : ev 15 [.agg [.int .i64 2, .int .i64 0, .int .i64 1, .int .i64 1]] σ = some (.tup [.str [116, 105, 108, 101, 47, 50, 47, 48, 47, 48, 48, 49, 46, 112, 47, 49], .int .i64 0], σ) := by
  have i0 : ∀ σ, ev 54 [.int .i64 0] σ = some (.str [48], σ) := fun σ => Itoa_dig 0 (by omega) σ
  have i1 : ∀ σ, ev 54 [.int .i64 1] σ = some (.str [49], σ) := fun σ => Itoa_dig 1 (by omega) σ
  have i2 : ∀ σ, ev 54 [.int .i64 2] σ = some (.str [50], σ) := fun σ => Itoa_dig 2 (by omega) σ
  refine EV_post rfl Tryz.func15 rfl (by simp [Tryz.ntmps15]) (by kernel_rfl) (by kernel_rfl) ?_
  simp (maxSteps := 4000000) [List.getElem?_cons_zero, List.getElem?_cons_succ, in_51, three_1, wrap64]
  refine Post_loop (I := fun _ : Unit => ⟨[(1, .lp 1 0), (4, .str [48, 48, 49]), (5, .int .i64 0)], [(1, [.int .i64 2, .int .i64 0, .int .i64 1, .int .i64 1])], σ⟩) (Pr := fun _ => True) (μ := fun _ => 0) (a := ()) (by simp) trivial ?_
  intro _ _
  simp (maxSteps := 4000000) [List.getElem?_cons_zero, List.getElem?_cons_succ, i0, i1, i2, wrap64, IntKind.bits, most, Tryz.results15]
  done
end Go.Proofs.Tryz.Ai
end
section
/- mewslaw7.first: yes. -/
namespace Go.Proofs.Tryz.Ai
open Go Go.AI Go.Proofs
set_option maxRecDepth 2000
set_option maxHeartbeats 400000
set_option linter.unusedVariables false

theorem first_eq (σ) : ev 6 [] σ = some (.bool true, σ) := by
  have hL : ∀ σ, ev 27 [.sl .sh []] σ = some (.sl (.ex 5 1) ((sha256 [0]).map .u8), σ) := fun σ => Leaf_eq .sh [] (by simp) σ
  have hX : ∀ σ, ev 26 [.sl .sh ((sha256 [0]).map .u8)] σ = some (.str (hexL (sha256 [0])), σ) := fun σ => Hex_eq .sh (sha256 [0]) (by decide +kernel) σ
  have hh : hexL (sha256 [0]) = [54, 101, 51, 52, 48, 98, 57, 99, 102, 102, 98, 51, 55, 97, 57, 56, 57, 99, 97, 53, 52, 52, 101, 54, 98, 98, 55, 56, 48, 97, 50, 99, 55, 56, 57, 48, 49, 100, 51, 102, 98, 51, 51, 55, 51, 56, 55, 54, 56, 53, 49, 49, 97, 51, 48, 54, 49, 55, 97, 102, 97, 48, 49, 100] := by decide +kernel
  dsimp only at hh
  rw [hh] at hX
  obtain ⟨D, hD⟩ : ∃ D, sha256 [0] = D := ⟨_, rfl⟩
  rw [hD] at hL hX
  clear hh hD
  have hI : ∀ σ, ev 28 [.int .i64 2, .int .i64 0] σ = some (.tup [.int .i64 6, .int .i64 0], σ) := fun σ => Index_yes 2 0 (by omega) (by omega) σ
  have hS : ∀ σ, ev 29 [.int .i64 5] σ = some (.tup [.int .i64 1, .int .i64 1, .int .i64 0], σ) := fun σ => Split_yes 5 3 1 2 (by decide) (by decide) (by omega) (by decide) σ
  have hN : ∀ σ, ev 12 [.int .i64 0] σ = some (.int .i64 0, σ) := fun σ => Num_eq 0 σ
  refine EV_post rfl Tryz.func6 rfl (by simp [Tryz.ntmps6]) (by kernel_rfl) (by kernel_rfl) ?_
  simp (maxSteps := 4000000) [List.getElem?_cons_zero, List.getElem?_cons_succ, hL, hX, hI, hS, hN, TileOf_54, Path_51, Tryz.results6]
end Go.Proofs.Tryz.Ai
end
section
/- The document's SHA-256: words turned, constants. -/
namespace Go.Proofs.Tryz.Ai
open Go Go.AI Go.Proofs
set_option maxHeartbeats 1000000
set_option linter.unusedVariables false

theorem wor_comm (a b : Int) : wor a b = wor b a := by
  unfold wor; simp only [bits, BitVec.or_comm]
theorem wadd_comm (a b : Int) : wadd a b = wadd b a := by unfold wadd; rw [Int.add_comm]
theorem turn_eq (x : Int) (n : Nat) (hn : n ≤ 32) (σ) : ev 109 [.int .u32 x, .int .i64 n] σ = some (.int .u32 (rotr x n), σ) := by
  refine EV_post rfl Tryz.func109 rfl (by simp [Tryz.ntmps109]) (by kernel_rfl) (by kernel_rfl) ?_
  have h1 : ¬ (n : Int) < 0 := by omega
  have h2 : IntKind.i64.wrap (32 - (n : Int)) = ((32 - n : Nat) : Int) := by rw [wrap64 (by omega)]; omega
  have h4 : min (32 - n) 32 = 32 - n := by omega
  have h5 : min n 32 = n := by omega
  obtain ⟨k, hk⟩ : ∃ k, 32 - n = k := ⟨_, rfl⟩
  have hr : rotr x n = bits .or .u32 (x.fdiv (2 ^ n)) (IntKind.u32.wrap (x * 2 ^ k)) := by unfold rotr; rw [wor_comm, hk]; rfl
  rw [hk] at h2 h4
  clear hn hk
  simp (maxSteps := 4000000) [List.getElem?_cons_zero, List.getElem?_cons_succ, h1, h2, h4, h5, IntKind.bits, Tryz.results109, hr]
theorem rconstants_eq (σ) : ev 108 [] σ = some (.sl (.ex 130 1) (kConst.map (.int .u32)), σ) := by
  refine EV_post rfl Tryz.func108 rfl (by simp [Tryz.ntmps108]) (by kernel_rfl) (by kernel_rfl) ?_
  refine Post_seq (Post_reg (st1 := ⟨[(0, .sl (.ex 130 1) [])], [], σ⟩) (by kernel_rfl) ?_)
  refine Post_seq (Post_reg (st1 := ⟨[(0, .sl (.ex 130 1) (kConst.map (.int .u32))), (1, .sl .sh (kConst.map (.int .u32)))], [], σ⟩) (by kernel_rfl) ?_)
  obtain ⟨R, hR⟩ : ∃ R, kConst.map (AV.int .u32) = R := ⟨_, rfl⟩
  rw [hR]
  simp (maxSteps := 4000000) [List.getElem?_cons_zero, List.getElem?_cons_succ, Tryz.results108]
theorem Bytes_eq (o : Own) (l : List UInt8) (hl : l.length ≤ 2 ^ 39) (σ) : ev 72 [.sl o (l.map .u8)] σ = some (.sl (.ex 5 1) (l.map .u8), σ) := by
  refine EV_post rfl Tryz.func72 rfl (by simp [Tryz.ntmps72]) (by kernel_rfl) (by kernel_rfl) ?_
  have h1 : l.length ≤ most := by unfold most; omega
  simp (maxSteps := 4000000) [List.getElem?_cons_zero, List.getElem?_cons_succ, h1, Tryz.results72]
/-- blocks, one behind the other -/
theorem blocksV_app (x y : List UInt8) (n : Nat) (hx : x.length = 64 * n) (s : V8) : (∀ k, k ≤ n → blocksV s (x ++ y) k = blocksV s x k) ∧ ∀ m, blocksV s (x ++ y) (n + m) = blocksV (blocksV s x n) y m := by
  have h1 : ∀ k, k ≤ n → blocksV s (x ++ y) k = blocksV s x k := by
    intro k
    induction k with
    | zero => intro _; rfl
    | succ k ih =>
      intro hk
      rw [blocksV, blocksV, ih (by omega)]
      congr 1
      rw [List.drop_append_of_le_length (by omega), List.take_append_of_le_length (by simp; omega)]
  refine ⟨h1, fun m => ?_⟩
  induction m with
  | zero => exact h1 n (Nat.le_refl _)
  | succ m ih =>
    rw [← Nat.add_assoc, blocksV, blocksV, ih]
    congr 1
    rw [List.drop_append, List.drop_of_length_le (by omega), List.nil_append, hx, show 64 * (n + m) - 64 * n = 64 * m by omega]
/-- a text, laid out to whole blocks -/
def laidB (b : List UInt8) : List UInt8 := b ++ [128] ++ List.replicate (padN b.length) 0 ++ lenB b.length 8
theorem blocksV_take (s : V8) (x : List UInt8) (n : Nat) : ∀ k, k ≤ n → blocksV s (x.take (64 * n)) k = blocksV s x k := by
  intro k
  induction k with
  | zero => intro _; rfl
  | succ k ih =>
    intro hk
    rw [blocksV, blocksV, ih (by omega)]
    congr 1
    rw [List.drop_take, List.take_take]
    congr 1
    omega
theorem sha256_laid (b : List UInt8) : sha256 b = (blocksV vInit (laidB b) ((laidB b).length / 64)).l.flatMap out4 := by
  have hs : laidB b = b.take (b.length / 64 * 64) ++ tailB b := by
    unfold laidB tailB
    simp only [← List.append_assoc, List.take_append_drop]
  have hl : (b.take (b.length / 64 * 64)).length = 64 * (b.length / 64) := by simp; omega
  have h1 := (blocksV_app _ (tailB b) (b.length / 64) hl vInit).2 ((tailB b).length / 64)
  have h2 : (laidB b).length / 64 = b.length / 64 + (tailB b).length / 64 := by rw [hs, List.length_append, hl]; omega
  have h3 := blocksV_take vInit b (b.length / 64) (b.length / 64) (Nat.le_refl _)
  rw [Nat.mul_comm] at h3
  rw [h2, hs, h1, h3]
  rfl
theorem laidB_len (b : List UInt8) : (laidB b).length % 64 = 0 ∧ (laidB b).length ≤ b.length + 80 := by
  have h1 : (laidB b).length = b.length + 1 + padN b.length + 8 := by simp [laidB, lenB]; omega
  rw [h1]; unfold padN; omega
end Go.Proofs.Tryz.Ai
end
section
/- The document's SHA-256, walked. -/
namespace Go.Proofs.Tryz.Ai
open Go Go.AI Go.Proofs
set_option maxHeartbeats 4000000
set_option linter.unusedVariables false

def wc (B : List UInt8) (l : List Int) (n : Nat) : List AV := (sched B n).map (.int .u32) ++ (l.drop n).map (.int .u32)
theorem wc_len (B : List UInt8) (l : List Int) (n : Nat) (h : n ≤ 64) (hl : l.length = 64) : (wc B l n).length = 64 := by simp [wc, sched_len]; omega
theorem wc_get (B : List UInt8) (l : List Int) (n j : Nat) (h : j < n) : (wc B l n)[j]? = some (.int .u32 ((sched B n).getD j 0)) := by
  have hj : j < (sched B n).length := by rw [sched_len]; exact h
  unfold wc
  rw [List.getElem?_append_left (by simpa using hj), List.getElem?_map, List.getElem?_eq_getElem hj]
  simp [List.getD, hj]
theorem wc_set (B : List UInt8) (l : List Int) (n : Nat) (v : Int) (h : n < 64) (hl : l.length = 64) (hv : v = if n < 16 then wordAt B n else nextW (sched B n) n) : (wc B l n).take n ++ .int .u32 v :: (wc B l n).drop (n + 1) = wc B l (n + 1) := by
  unfold wc
  rw [List.take_append_of_le_length (by simp [sched_len]), List.take_of_length_le (by simp [sched_len])]
  rw [List.drop_append, List.drop_eq_nil_of_le (by simp [sched_len])]
  simp only [List.length_map, sched_len, sched, hv]
  rw [show n + 1 - n = 1 by omega, ← List.map_drop, List.drop_drop]
  simp
theorem addV_comm (x s : V8) : addV x s = addV s x := by unfold addV; simp only [wadd_comm]
theorem turns (σ : List (List AV)) (x : Int) : ev 109 [.int .u32 x, .int .i64 6] σ = some (.int .u32 (rotr x 6), σ) ∧ ev 109 [.int .u32 x, .int .i64 11] σ = some (.int .u32 (rotr x 11), σ) ∧
    ev 109 [.int .u32 x, .int .i64 25] σ = some (.int .u32 (rotr x 25), σ) ∧ ev 109 [.int .u32 x, .int .i64 2] σ = some (.int .u32 (rotr x 2), σ) ∧
    ev 109 [.int .u32 x, .int .i64 13] σ = some (.int .u32 (rotr x 13), σ) ∧ ev 109 [.int .u32 x, .int .i64 22] σ = some (.int .u32 (rotr x 22), σ) :=
  ⟨turn_eq x 6 (by omega) σ, turn_eq x 11 (by omega) σ, turn_eq x 25 (by omega) σ, turn_eq x 2 (by omega) σ, turn_eq x 13 (by omega) σ, turn_eq x 22 (by omega) σ⟩
theorem turns4 (σ : List (List AV)) (x : Int) : ev 109 [.int .u32 x, .int .i64 7] σ = some (.int .u32 (rotr x 7), σ) ∧ ev 109 [.int .u32 x, .int .i64 18] σ = some (.int .u32 (rotr x 18), σ) ∧
    ev 109 [.int .u32 x, .int .i64 17] σ = some (.int .u32 (rotr x 17), σ) ∧ ev 109 [.int .u32 x, .int .i64 19] σ = some (.int .u32 (rotr x 19), σ) :=
  ⟨turn_eq x 7 (by omega) σ, turn_eq x 18 (by omega) σ, turn_eq x 17 (by omega) σ, turn_eq x 19 (by omega) σ⟩

theorem rSHA256_eq (o : Own) (b : List UInt8) (hl : b.length ≤ 1073741824) (σ) : ev 74 [.sl o (b.map .u8)] σ = some (.sl (.ex 5 1) ((sha256 b).map .u8), σ) := by
  have hK := rconstants_eq σ
  have hB := Bytes_eq .sh b (by omega) (σ ++ [vInit.cs])
  have hcs : vInit.cs = [.int .u32 1779033703, .int .u32 3144134277, .int .u32 1013904242, .int .u32 2773480762, .int .u32 1359893119, .int .u32 2600822924, .int .u32 528734635, .int .u32 1541459225] := rfl
  rw [hcs] at hB
  obtain ⟨K, hKK⟩ : ∃ K, kConst.map (AV.int .u32) = K := ⟨_, rfl⟩
  rw [hKK] at hK
  have q0 : b.length + 1 ≤ most := by unfold most; omega
  refine EV_post rfl Tryz.func74 rfl (by simp [Tryz.ntmps74]) (by kernel_rfl) (by kernel_rfl) ?_
  simp (maxSteps := 4000000) [List.getElem?_cons_zero, List.getElem?_cons_succ, hK, hB, q0]
  -- zeros
  refine Post_loop (I := fun k : Nat => ⟨[(0, .sl o (b.map .u8)), (3, .sl (.ex 130 1) K), (4, .ms 130 1 σ.length 0 8), (5, .sl (.ex 5 1) ((b ++ [128] ++ List.replicate k 0).map .u8))], [], σ ++ [vInit.cs]⟩)
    (Pr := fun k => k ≤ padN b.length) (μ := fun k => padN b.length - k) (a := 0) (by simp [hcs]) (by omega) ?_
  intro k hk
  have hp64 : padN b.length < 64 := Nat.mod_lt _ (by omega)
  have hpe := padN_eq b.length k hk
  obtain ⟨L, hL⟩ : ∃ L, b ++ [128] ++ List.replicate k 0 = L := ⟨_, rfl⟩
  have hLl : L.length = b.length + 1 + k := by rw [← hL]; simp; omega
  simp only [hL]
  by_cases hc : k = padN b.length
  rotate_left
  · have c1 : ¬ ((L.length : Int).tmod 64 = 56) := by rw [Int.tmod_eq_emod_of_nonneg (by omega), hLl]; omega
    have q4 : L.length + 1 ≤ most := by unfold most; omega
    simp (maxSteps := 4000000) [List.getElem?_cons_zero, List.getElem?_cons_succ, c1, q4]
    refine ⟨k + 1, by omega, by omega, ?_⟩
    rw [← hL, List.replicate_succ']; simp
  have c1 : ((L.length : Int).tmod 64 = 56) := by rw [Int.tmod_eq_emod_of_nonneg (by omega), hLl]; omega
  have u1 : IntKind.u64.wrap (b.length : Int) = b.length := wrapU64 (by omega)
  have u2 : IntKind.u64.wrap ((b.length : Int) * 8) = ((8 * b.length : Nat) : Int) := by rw [wrapU64 (by omega)]; omega
  obtain ⟨n8, hn8⟩ : ∃ n8, 8 * b.length = n8 := ⟨_, rfl⟩
  rw [hn8] at u2
  simp (maxSteps := 4000000) [List.getElem?_cons_zero, List.getElem?_cons_succ, c1, u1, u2]
  clear c1
  -- the length
  refine Post_loop (I := fun i : Nat => ⟨[(3, .sl (.ex 130 1) K), (4, .ms 130 1 σ.length 0 8), (5, .sl (.ex 5 1) ((L ++ lenB b.length i).map .u8)), (6, .int .u64 n8), (7, .int .i64 (7 - (i : Int)))], [], σ ++ [vInit.cs]⟩)
    (Pr := fun i => i ≤ 8) (μ := fun i => 8 - i) (a := 0) (by simp [lenB]) (by omega) ?_
  intro i hi
  obtain ⟨M, hM⟩ : ∃ M, L ++ lenB b.length i = M := ⟨_, rfl⟩
  have hMl : M.length = L.length + i := by rw [← hM]; simp [lenB]
  simp only [hM]
  by_cases hi8 : i < 8
  · obtain ⟨t, ht⟩ : ∃ t : Int, 7 - (i : Int) = t := ⟨_, rfl⟩
    have q4 : 0 ≤ t := by omega
    obtain ⟨j, hj⟩ : ∃ j, 56 - 8 * i = j := ⟨_, rfl⟩
    have e1 : IntKind.i64.wrap (8 * t) = (j : Int) := by rw [wrap64 (by omega)]; omega
    have e4 : IntKind.i64.wrap (t - 1) = t - 1 := wrap64 (by omega)
    have q5 : ¬ (j : Int) < 0 := by omega
    have q6 : min j 64 = j := by omega
    have q7 : M.length + 1 ≤ most := by unfold most; omega
    have hfin := lenB_succ b.length i
    rw [hj, hn8] at hfin
    simp only [ht]
    simp (maxSteps := 4000000) [List.getElem?_cons_zero, List.getElem?_cons_succ, q4, e1, e4, q5, q6, q7, IntKind.bits]
    refine ⟨i + 1, by omega, by omega, ?_, by omega⟩
    rw [hfin, ← hM]
    simp [b8_wrap]
  have hi8' : i = 8 := by omega
  subst hi8'
  have hT : laidB b = M := by rw [← hM, ← hL, hc]; rfl
  have hTl := laidB_len b
  rw [hT] at hTl
  have hv64 : (64 : Nat) ≤ most := by unfold most; omega
  simp (maxSteps := 4000000) [List.getElem?_cons_zero, List.getElem?_cons_succ, hv64]
  obtain ⟨N, hN⟩ : ∃ N, M.length / 64 = N := ⟨_, rfl⟩
  have hMN : M.length = 64 * N := by omega
  clear hpe hp64 hi hMl hM
  -- the blocks
  refine Post_loop (I := fun p : Nat × List Int => ⟨[(3, .sl (.ex 130 1) K), (4, .ms 130 1 σ.length 0 8), (5, .sl (.ex 5 1) (M.map .u8)), (8, .ms 130 1 (σ.length + 1) 0 64), (9, .int .i64 ((64 * p.1 : Nat) : Int))], [], σ ++ [(blocksV vInit M p.1).cs, p.2.map (.int .u32)]⟩)
    (Pr := fun p => p.1 ≤ N ∧ p.2.length = 64) (μ := fun p => N - p.1) (a := (0, List.replicate 64 0)) (by simp [blocksV]) (by simp) ?_
  rintro ⟨n, l⟩ ⟨hn, hll⟩
  simp only at hn hll ⊢
  obtain ⟨X, hX⟩ : ∃ X, blocksV vInit M n = X := ⟨_, rfl⟩
  obtain ⟨i1, i2, i3, i4⟩ := cs_facts X
  obtain ⟨m, hm⟩ : ∃ m, 64 * n = m := ⟨_, rfl⟩
  simp only [hX, hm]
  by_cases hc2 : n < N
  · have q1 : m < M.length := by omega
    obtain ⟨B, hB2⟩ : ∃ B, (M.drop m).take 64 = B := ⟨_, rfl⟩
    have hBl : B.length = 64 := by rw [← hB2]; simp; omega
    have hBg : ∀ j, j < 64 → M[m + j]? = B[j]? := by
      intro j hj
      rw [← hB2, List.getElem?_take, if_pos hj, List.getElem?_drop]
    have hstep : blocksV vInit M (n + 1) = blockV kConst X B := by rw [blocksV, hX, hm, hB2]
    simp (maxSteps := 4000000) [List.getElem?_cons_zero, List.getElem?_cons_succ, q1]
    -- sixteen words of the block
    refine Post_loop (I := fun j : Nat => ⟨[(3, .sl (.ex 130 1) K), (4, .ms 130 1 σ.length 0 8), (5, .sl (.ex 5 1) (M.map .u8)), (8, .ms 130 1 (σ.length + 1) 0 64), (9, .int .i64 m), (10, .int .i64 j)], [], σ ++ [X.cs, wc B l j]⟩)
      (Pr := fun j => j ≤ 16) (μ := fun j => 16 - j) (a := 0) (by simp [wc, sched]) (by omega) ?_
    intro j hj
    have hlen := wc_len B l j (by omega) hll
    have w1 : IntKind.i64.wrap ((j : Int) + 1) = (j : Int) + 1 := wrap64 (by omega)
    by_cases h16 : j < 16
    · obtain ⟨m4, hm4⟩ : ∃ m4, m + 4 * j = m4 := ⟨_, rfl⟩
      have e4 : IntKind.i64.wrap (4 * (j : Int)) = 4 * (j : Int) := wrap64 (by omega)
      have e5 : IntKind.i64.wrap ((m : Int) + 4 * (j : Int)) = (m4 : Int) := by rw [wrap64 (by omega)]; omega
      have e6 : IntKind.i64.wrap ((m4 : Int) + 1) = ((m4 + 1 : Nat) : Int) := by rw [wrap64 (by omega)]; omega
      have e7 : IntKind.i64.wrap ((m4 : Int) + 2) = ((m4 + 2 : Nat) : Int) := by rw [wrap64 (by omega)]; omega
      have e8 : IntKind.i64.wrap ((m4 : Int) + 3) = ((m4 + 3 : Nat) : Int) := by rw [wrap64 (by omega)]; omega
      obtain ⟨x0, hx0⟩ : ∃ x, M[m4]? = some x := ⟨_, List.getElem?_eq_getElem (by omega)⟩
      obtain ⟨x1, hx1⟩ : ∃ x, M[m4 + 1]? = some x := ⟨_, List.getElem?_eq_getElem (by omega)⟩
      obtain ⟨x2, hx2⟩ : ∃ x, M[m4 + 2]? = some x := ⟨_, List.getElem?_eq_getElem (by omega)⟩
      obtain ⟨x3, hx3⟩ : ∃ x, M[m4 + 3]? = some x := ⟨_, List.getElem?_eq_getElem (by omega)⟩
      have b0 := hBg (4 * j) (by omega)
      have b1 := hBg (4 * j + 1) (by omega)
      have b2 := hBg (4 * j + 2) (by omega)
      have b3 := hBg (4 * j + 3) (by omega)
      rw [hm4, hx0] at b0
      rw [← Nat.add_assoc, hm4, hx1] at b1
      rw [← Nat.add_assoc, hm4, hx2] at b2
      rw [← Nat.add_assoc, hm4, hx3] at b3
      have hset := wc_set B l j (wordAt B j) (by omega) hll (by rw [if_pos h16])
      have hw : wordAt B j = wor (wor (wor (IntKind.u32.wrap ((x0.toNat : Int) * 16777216)) (IntKind.u32.wrap ((x1.toNat : Int) * 65536))) (IntKind.u32.wrap ((x2.toNat : Int) * 256))) (x3.toNat : Int) := by
        simp [wordAt, byteI, List.getD, ← b0, ← b1, ← b2, ← b3]
      rw [hw] at hset
      have h63 : j ≤ 63 := by omega
      have h64 : j < 64 := by omega
      clear hw hBg b0 b1 b2 b3 hm4
      simp (maxSteps := 4000000) [List.getElem?_cons_zero, List.getElem?_cons_succ, -getElem?_pos, h16, h63, h64, e4, e5, e6, e7, e8, hx0, hx1, hx2, hx3, wrapU32_byte, hlen, w1, or_fold, IntKind.bits, hset]
      exact ⟨j + 1, by omega, by omega, by simp, rfl⟩
    have hj16 : j = 16 := by omega
    subst hj16
    clear hBg w1
    simp (maxSteps := 4000000) [List.getElem?_cons_zero, List.getElem?_cons_succ, List.getElem?_cons_zero]
    -- the words behind
    refine Post_loop (I := fun k : Nat => ⟨[(3, .sl (.ex 130 1) K), (4, .ms 130 1 σ.length 0 8), (5, .sl (.ex 5 1) (M.map .u8)), (8, .ms 130 1 (σ.length + 1) 0 64), (9, .int .i64 m), (12, .int .i64 k)], [], σ ++ [X.cs, wc B l k]⟩)
      (Pr := fun k => 16 ≤ k ∧ k ≤ 64) (μ := fun k => 64 - k) (a := 16) (by simp) (by omega) ?_
    rintro k ⟨hk1, hk2⟩
    have hlen2 := wc_len B l k (by omega) hll
    have w1 : IntKind.i64.wrap ((k : Int) + 1) = (k : Int) + 1 := wrap64 (by omega)
    by_cases h64 : k < 64
    · obtain ⟨m1, h1⟩ : ∃ m, k - 15 = m := ⟨_, rfl⟩
      obtain ⟨m2, h2⟩ : ∃ m, k - 2 = m := ⟨_, rfl⟩
      obtain ⟨m3, h3⟩ : ∃ m, k - 16 = m := ⟨_, rfl⟩
      obtain ⟨m4, h4⟩ : ∃ m, k - 7 = m := ⟨_, rfl⟩
      have e1 : IntKind.i64.wrap ((k : Int) - 15) = (m1 : Int) := by rw [wrap64 (by omega)]; omega
      have e2 : IntKind.i64.wrap ((k : Int) - 2) = (m2 : Int) := by rw [wrap64 (by omega)]; omega
      have e3 : IntKind.i64.wrap ((k : Int) - 16) = (m3 : Int) := by rw [wrap64 (by omega)]; omega
      have e4 : IntKind.i64.wrap ((k : Int) - 7) = (m4 : Int) := by rw [wrap64 (by omega)]; omega
      have g1 := wc_get B l k m1 (by omega)
      have g2 := wc_get B l k m2 (by omega)
      have g3 := wc_get B l k m3 (by omega)
      have g4 := wc_get B l k m4 (by omega)
      have l1 : m1 < 64 := by omega
      have l2 : m2 < 64 := by omega
      have l3 : m3 < 64 := by omega
      have l4 : m4 < 64 := by omega
      have r1 := fun σ x => (turns4 σ x).1
      have r2 := fun σ x => (turns4 σ x).2.1
      have r3 := fun σ x => (turns4 σ x).2.2.1
      have r4 := fun σ x => (turns4 σ x).2.2.2
      have hset := wc_set B l k (nextW (sched B k) k) h64 hll (by rw [if_neg (by omega)])
      unfold nextW sig0 sig1 at hset
      rw [h1, h2, h3, h4] at hset
      have h63 : k ≤ 63 := by omega
      generalize (sched B k).getD m1 0 = y1 at *
      generalize (sched B k).getD m2 0 = y2 at *
      generalize (sched B k).getD m3 0 = y3 at *
      generalize (sched B k).getD m4 0 = y4 at *
      clear h1 h2 h3 h4 hlen
      simp (maxSteps := 4000000) [List.getElem?_cons_zero, List.getElem?_cons_succ, -getElem?_pos, h64, h63, e1, e2, e3, e4, g1, g2, g3, g4, l1, l2, l3, l4, r1, r2, r3, r4, hlen2, w1, xor_fold, add_fold, IntKind.bits, hset]
      exact ⟨k + 1, ⟨by omega, by omega⟩, by omega, by simp, rfl⟩
    have hk64 : k = 64 := by omega
    subst hk64
    clear hlen hlen2 w1
    obtain ⟨W, hW⟩ : ∃ W, sched B 64 = W := ⟨_, rfl⟩
    have hWl : W.length = 64 := by rw [← hW, sched_len]
    have hwc : wc B l 64 = W.map (.int .u32) := by unfold wc; rw [hW, List.drop_of_length_le (by omega)]; simp
    rw [hwc]
    obtain ⟨Wc, hWc2⟩ : ∃ Wc, W.map (AV.int .u32) = Wc := ⟨_, rfl⟩
    rw [hWc2]
    have h8 : (8 : Nat) ≤ most := by unfold most; omega
    have hpl : allCells 1 X.cs := by
      intro c hc; simp [V8.cs] at hc; rcases hc with rfl | rfl | rfl | rfl | rfl | rfl | rfl | rfl <;> exact ⟨rfl, fun c h => by simp [AV.cells] at h; subst h; rfl⟩
    simp (maxSteps := 4000000) [List.getElem?_cons_zero, List.getElem?_cons_succ, i1, i2, i3, i4, h8, hpl]
    have hWn : ∀ n, n < 64 → Wc[n]? = some (.int .u32 (W.getD n 0)) := fun n hn => by rw [← hWc2]; exact list_get W n 64 hWl hn
    have hKn : ∀ n, n < 64 → K[n]? = some (.int .u32 (kConst.getD n 0)) := fun n hn => by rw [← hKK]; exact list_get kConst n 64 rfl hn
    have hWcl : Wc.length = 64 := by rw [← hWc2]; simpa using hWl
    have hbv : blockV kConst X B = addV (roundsV X kConst W 64) X := by unfold blockV; rw [hW]
    rw [hbv] at hstep
    -- the rounds
    refine Post_loop (I := fun k : Nat => ⟨[(3, .sl (.ex 130 1) K), (4, .ms 130 1 σ.length 0 8), (5, .sl (.ex 5 1) (M.map .u8)), (8, .ms 130 1 (σ.length + 1) 0 64), (9, .int .i64 m), (15, .sl (.ex 130 1) (roundsV X kConst W k).cs), (16, .int .i64 k)], [], σ ++ [X.cs, Wc]⟩)
      (Pr := fun k => k ≤ 64) (μ := fun k => 64 - k) (a := 0) (by simp [roundsV]) (by omega) ?_
    intro k hk
    obtain ⟨x, hx⟩ : ∃ x, roundsV X kConst W k = x := ⟨_, rfl⟩
    have hxc : x.cs = [.int .u32 x.a, .int .u32 x.b, .int .u32 x.c, .int .u32 x.d, .int .u32 x.e, .int .u32 x.f, .int .u32 x.g, .int .u32 x.h] := rfl
    by_cases hlt : k < 64
    · have g1 := hWn k hlt
      have g2 := hKn k hlt
      have hs1 : roundsV X kConst W (k + 1) = roundV x (kConst.getD k 0) (W.getD k 0) := by rw [roundsV, hx]
      obtain ⟨kk, hkk⟩ : ∃ kk, kConst.getD k 0 = kk := ⟨_, rfl⟩
      obtain ⟨w, hw⟩ : ∃ w, W.getD k 0 = w := ⟨_, rfl⟩
      rw [hw] at g1 hs1
      rw [hkk] at g2 hs1
      clear hWn hKn hkk hw hbv hstep hpl
      have q2 : k ≤ 63 := by omega
      have w1 : IntKind.i64.wrap ((k : Int) + 1) = (k : Int) + 1 := wrap64 (by omega)
      have r1 := fun σ x => (turns σ x).1
      have r2 := fun σ x => (turns σ x).2.1
      have r3 := fun σ x => (turns σ x).2.2.1
      have r4 := fun σ x => (turns σ x).2.2.2.1
      have r5 := fun σ x => (turns σ x).2.2.2.2.1
      have r6 := fun σ x => (turns σ x).2.2.2.2.2
      obtain ⟨Xc, hXc⟩ : ∃ Xc, X.cs = Xc := ⟨_, rfl⟩
      have hmax : IntKind.u32.max = 4294967295 := rfl
      have hnot : ∀ a, bits .xor .u32 4294967295 a = wnot a := fun a => rfl
      have hsg : IntKind.u32.signed = false := rfl
      simp only [hx, hxc, hXc]
      simp (maxSteps := 4000000) [List.getElem?_cons_zero, List.getElem?_cons_succ, -getElem?_pos, hlt, q2, g1, g2, hWcl, w1, r1, r2, r3, r4, r5, r6, hnot, hsg, hmax, xor_fold, and_fold, add_fold]
      exact ⟨k + 1, by omega, by omega, by rw [hs1]; rfl, by simp⟩
    have hk64 : k = 64 := by omega
    subst hk64
    rw [hx] at hstep
    simp only [hx]
    have hst2 : blocksV vInit M (n + 1) = addV X x := by rw [hstep, addV_comm]
    clear hWn hKn hbv hstep
    have hz := addC_zero X x
    rw [V8.cs_eq] at hz
    obtain ⟨xc, hxc2⟩ : ∃ xc, x.cs = xc := ⟨_, rfl⟩
    have hxs : (x.l.map (AV.int .u32)) = xc := hxc2
    have hxcl : xc.length = 8 := by rw [← hxc2]; rfl
    simp only [hxc2]
    simp (maxSteps := 4000000) [List.getElem?_cons_zero, List.getElem?_cons_succ, hWcl]
    -- the sums
    refine Post_loop (I := fun j : Nat => ⟨[(3, .sl (.ex 130 1) K), (4, .ms 130 1 σ.length 0 8), (5, .sl (.ex 5 1) (M.map .u8)), (8, .ms 130 1 (σ.length + 1) 0 64), (9, .int .i64 m), (15, .sl (.ex 130 1) xc), (22, .int .i64 j)], [], σ ++ [addC X x j, Wc]⟩)
      (Pr := fun j => j ≤ 8) (μ := fun j => 8 - j) (a := 0) (by simp [hz]) (by omega) ?_
    intro j hj
    have hl8 := addC_len X x j
    by_cases hj8 : j < 8
    · obtain ⟨y, z, e1, e2, e3⟩ := addC_step X x j hj8
      rw [hxs] at e2
      have q2 : j ≤ 7 := by omega
      have w1 : IntKind.i64.wrap ((j : Int) + 1) = (j : Int) + 1 := wrap64 (by omega)
      simp (maxSteps := 4000000) [List.getElem?_cons_zero, List.getElem?_cons_succ, -getElem?_pos, q2, hj8, e1, e2, hl8, hxcl, w1, add_fold, e3]
      exact ⟨j + 1, by omega, by omega, by simp, rfl⟩
    have hj8' : j = 8 := by omega
    subst hj8'
    have w1 : IntKind.i64.wrap ((m : Int) + 64) = (m : Int) + 64 := wrap64 (by omega)
    have hce := addC_end X x
    rw [V8.cs_eq, ← hst2] at hce
    simp only [hce]
    simp (maxSteps := 4000000) [List.getElem?_cons_zero, List.getElem?_cons_succ, w1]
    refine ⟨n + 1, W, ⟨by omega, hWl⟩, by omega, by omega, by simp, hWc2.symm⟩
  · have hnN : n = N := by omega
    subst hnN
    have q1 : ¬ m < M.length := by omega
    simp (maxSteps := 4000000) [List.getElem?_cons_zero, List.getElem?_cons_succ, q1]
    -- what is handed back
    refine Post_loop (I := fun j : Nat => ⟨[(4, .ms 130 1 σ.length 0 8), (23, .sl (.ex 5 1) (((X.l.take j).flatMap out4).map .u8)), (24, .int .i64 j)], [], σ ++ [X.cs, l.map (.int .u32)]⟩)
      (Pr := fun j => j ≤ 8) (μ := fun j => 8 - j) (a := 0) (by simp) (by omega) ?_
    intro j hj
    obtain ⟨R, hR⟩ : ∃ R, (X.l.take j).flatMap out4 = R := ⟨_, rfl⟩
    have hRl : R.length ≤ 32 := by
      rw [← hR]
      have : ∀ l : List Int, (l.flatMap out4).length = 4 * l.length := by
        intro l
        induction l with
        | nil => rfl
        | cons a r ih => rw [List.flatMap_cons, List.length_append, ih]; simp [out4]; omega
      rw [this]; simp [V8.l]; omega
    simp only [hR]
    by_cases hj8 : j < 8
    · have q2 : j ≤ 7 := by omega
      have g := cs_get X j hj8
      obtain ⟨v, hv⟩ : ∃ v, X.l.getD j 0 = v := ⟨_, rfl⟩
      have hfin := out_succ X j hj8
      rw [hv] at g hfin
      have e4 : IntKind.i64.wrap ((j : Int) + 1) = (j : Int) + 1 := wrap64 (by omega)
      have q7 : R.length + 4 ≤ most := by unfold most; omega
      simp (maxSteps := 4000000) [List.getElem?_cons_zero, List.getElem?_cons_succ, -getElem?_pos, q2, hj8, g, e4, i1, q7, IntKind.bits]
      refine ⟨j + 1, by omega, by omega, ?_, by omega⟩
      rw [hfin, hR]
      simp [out4, b8_wrap]
    have hj8' : j = 8 := by omega
    subst hj8'
    have hfin : sha256 b = R := by
      rw [sha256_laid, hT, hN, hX, ← hR]
      rfl
    rw [hfin]
    simp (maxSteps := 4000000) [List.getElem?_cons_zero, List.getElem?_cons_succ, Tryz.results74]
end Go.Proofs.Tryz.Ai
end
section
/- tlog: halves, the parts that a proof names. -/
namespace Go.Proofs.Tryz.Ai
open Go Go.AI Go.Proofs
set_option maxHeartbeats 2000000
set_option linter.unusedVariables false

theorem half_eq (n : Nat) (h : 2 ≤ n) (hn : n ≤ 2 ^ 40) (σ) : ev 92 [.int .i64 n] σ = some (.int .i64 (halfN n), σ) := by
  refine EV_post rfl Tryz.func92 rfl (by simp [Tryz.ntmps92]) (by kernel_rfl) (by kernel_rfl) ?_
  simp (maxSteps := 4000000) (disch := omega) [dT, dF, wrap64]
  refine Post_loop (I := fun s : Nat => ⟨[(0, .int .i64 n), (3, .int .i64 s)], [], σ⟩) (Pr := fun s => 0 < s ∧ s < n ∧ halfW n s = halfN n) (μ := fun s => n - s) (a := 1) (by simp) ⟨by omega, by omega, rfl⟩ ?_
  rintro s ⟨h0, h1, h2⟩
  have w1 : IntKind.i64.wrap (2 * (s : Int)) = ((2 * s : Nat) : Int) := by rw [wrap64 (by omega)]; omega
  have w2 : IntKind.i64.wrap ((s : Int) * 2) = ((2 * s : Nat) : Int) := by rw [wrap64 (by omega)]; omega
  obtain ⟨d, hd⟩ : ∃ d, 2 * s = d := ⟨_, rfl⟩
  rw [hd] at w1 w2
  by_cases hc : d < n
  · simp (maxSteps := 4000000) [List.getElem?_cons_zero, List.getElem?_cons_succ, w1, w2, hc]
    exact ⟨⟨by omega, by rw [← h2, ← hd]; exact (by rw [halfW.eq_def n s, dif_pos ⟨by omega, h0⟩])⟩, by omega⟩
  · have h3 : halfN n = s := by rw [← h2, halfW, dif_neg (by omega)]
    simp (maxSteps := 4000000) [List.getElem?_cons_zero, List.getElem?_cons_succ, w1, hc, h3, Tryz.results92]
theorem split_eq (n : Nat) (h : 2 ≤ n) (hn : n ≤ 2 ^ 40) (σ) : ev 101 [.int .i64 n] σ = some (.int .i64 (halfN n), σ) := by
  refine EV_post rfl Tryz.func101 rfl (by simp [Tryz.ntmps101]) (by kernel_rfl) (by kernel_rfl) ?_
  simp (maxSteps := 4000000) (disch := omega) [dT, dF, wrap64]
  refine Post_loop (I := fun s : Nat => ⟨[(0, .int .i64 n), (3, .int .i64 s)], [], σ⟩) (Pr := fun s => 0 < s ∧ s < n ∧ halfW n s = halfN n) (μ := fun s => n - s) (a := 1) (by simp) ⟨by omega, by omega, rfl⟩ ?_
  rintro s ⟨h0, h1, h2⟩
  have w1 : IntKind.i64.wrap (2 * (s : Int)) = ((2 * s : Nat) : Int) := by rw [wrap64 (by omega)]; omega
  obtain ⟨d, hd⟩ : ∃ d, 2 * s = d := ⟨_, rfl⟩
  rw [hd] at w1
  by_cases hc : d < n
  · simp (maxSteps := 4000000) [List.getElem?_cons_zero, List.getElem?_cons_succ, w1, hc]
    exact ⟨⟨by omega, by rw [← h2, ← hd]; exact (by rw [halfW.eq_def n s, dif_pos ⟨by omega, h0⟩])⟩, by omega⟩
  · have h3 : halfN n = s := by rw [← h2, halfW, dif_neg (by omega)]
    simp (maxSteps := 4000000) [List.getElem?_cons_zero, List.getElem?_cons_succ, w1, hc, h3, Tryz.results101]
def spanA (x : Nat × Nat) : AV := .agg [.int .i64 x.1, .int .i64 x.2]
theorem path_eq (n : Nat) : ∀ (i frm : Nat), 1 ≤ n → i < n → frm + n ≤ 2 ^ 30 → ∀ σ, ev 80 [.int .i64 i, .agg [.int .i64 frm, .int .i64 n]] σ = some (.sl (.ex 113 2) ((pathN i frm n).map spanA), σ) := by
  induction n using Nat.strongRecOn with
  | _ n ih =>
    intro i frm h1 hi hf σ
    refine EV_post rfl Tryz.func80 rfl (by simp [Tryz.ntmps80]) (by kernel_rfl) (by kernel_rfl) ?_
    by_cases hn : n = 1
    · subst hn
      have e : pathN i frm 1 = [] := by rw [pathN, dif_neg (by omega)]
      simp (maxSteps := 4000000) [List.getElem?_cons_zero, List.getElem?_cons_succ, e, Tryz.results80]
    · have h2 : 2 ≤ n := by omega
      have hs := halfN_spec h2
      have hH := half_eq n h2 (by omega)
      have e : pathN i frm n = if i < halfN n then pathN i frm (halfN n) ++ [(frm + halfN n, n - halfN n)] else pathN (i - halfN n) (frm + halfN n) (n - halfN n) ++ [(frm, halfN n)] := by
        rw [pathN, dif_pos h2]
      have hle : ∀ i a, (pathN i a (halfN n)).length ≤ n ∧ (pathN i a (n - halfN n)).length ≤ n := fun i a => ⟨by have := pathN_le (halfN n) i a; omega, by have := pathN_le (n - halfN n) i a; omega⟩
      rw [e]
      have ihA := ih (halfN n) hs.2.1 i frm hs.1
      have ihB := ih (n - halfN n) (by omega) (i - halfN n) (frm + halfN n) (by omega)
      obtain ⟨s, hsd⟩ : ∃ s, halfN n = s := ⟨_, rfl⟩
      rw [hsd] at hs hH ihA ihB hle ⊢
      have w1 : IntKind.i64.wrap ((frm : Int) + s) = ((frm + s : Nat) : Int) := by rw [wrap64 (by omega)]; omega
      have w2 : IntKind.i64.wrap ((n : Int) - s) = ((n - s : Nat) : Int) := by rw [wrap64 (by omega)]; omega
      obtain ⟨f2, hf2⟩ : ∃ f2, frm + s = f2 := ⟨_, rfl⟩
      obtain ⟨n2, hn2⟩ : ∃ n2, n - s = n2 := ⟨_, rfl⟩
      rw [hf2] at w1 ihB ⊢
      rw [hn2] at w2 ihB hle ⊢
      by_cases hc : i < s
      · have ihA' := ihA hc (by omega)
        have q := (hle i frm).1
        have q2 : (pathN i frm s).length + 1 ≤ most := by unfold most; omega
        rw [if_pos hc]
        generalize pathN i frm s = L at ihA' q2
        simp (maxSteps := 4000000) [List.getElem?_cons_zero, List.getElem?_cons_succ, hn, hH, w1, w2, hc, ihA', q2, spanA, Tryz.results80]
      · have w3 : IntKind.i64.wrap ((i : Int) - s) = ((i - s : Nat) : Int) := by rw [wrap64 (by omega)]; omega
        have ihB' := ihB (by omega) (by omega)
        have q := (hle (i - s) f2).2
        have q2 : (pathN (i - s) f2 n2).length + 1 ≤ most := by unfold most; omega
        rw [if_neg hc]
        generalize pathN (i - s) f2 n2 = L at ihB' q2
        obtain ⟨i2, hi2⟩ : ∃ i2, i - s = i2 := ⟨_, rfl⟩
        rw [hi2] at w3 ihB'
        simp (maxSteps := 4000000) [List.getElem?_cons_zero, List.getElem?_cons_succ, hn, hH, w1, w2, w3, hc, ihB', q2, spanA, Tryz.results80]
theorem steps_eq (i n : Nat) (h1 : 1 ≤ n) (hi : i < n) (hn : n ≤ 2 ^ 30) (σ) : ev 86 [.int .i64 i, .int .i64 n] σ = some (.int .i64 (stepsN i n), σ) := by
  refine EV_post rfl Tryz.func86 rfl (by simp [Tryz.ntmps86]) (by kernel_rfl) (by kernel_rfl) ?_
  simp (maxSteps := 4000000) (disch := omega) [dT, dF, wrap64]
  refine Post_loop (I := fun p : Nat × Nat × Nat => ⟨[(0, .int .i64 p.1), (1, .int .i64 p.2.1), (5, .int .i64 p.2.2)], [], σ⟩) (Pr := fun p => 1 ≤ p.2.1 ∧ p.2.1 ≤ n ∧ p.1 < p.2.1 ∧ p.2.2 + stepsN p.1 p.2.1 = stepsN i n) (μ := fun p => p.2.1) (a := (i, n, 0)) (by simp) ⟨h1, by simp, hi, by simp⟩ ?_
  rintro ⟨a, m, k⟩ ⟨g1, g2, g3, g4⟩
  simp only at g1 g2 g3 g4 ⊢
  by_cases hm : 2 ≤ m
  · have hs := halfN_spec hm
    have hS := split_eq m hm (by omega)
    have e : stepsN a m = if a < halfN m then stepsN a (halfN m) + 1 else stepsN (a - halfN m) (m - halfN m) + 1 := by
      unfold stepsN
      rw [pathN, dif_pos hm]
      split
      · simp
      · simp; exact pathN_len _ _ _ _
    obtain ⟨s, hsd⟩ : ∃ s, halfN m = s := ⟨_, rfl⟩
    rw [hsd] at hs hS e
    rw [e] at g4
    have hm1 : 1 < m := by omega
    have hle : stepsN i n ≤ n := pathN_le _ _ _
    have w0 : IntKind.i64.wrap ((k : Int) + 1) = (k : Int) + 1 := by
      refine wrap64 ?_
      split at g4 <;> omega
    by_cases hc : a < s
    · rw [if_pos hc] at g4
      simp (maxSteps := 4000000) [List.getElem?_cons_zero, List.getElem?_cons_succ, hm1, hS, hc, w0]
      exact ⟨a, s, k + 1, ⟨by omega, by omega, hc, by omega⟩, by omega, rfl, rfl, by simp⟩
    · rw [if_neg hc] at g4
      have w1 : IntKind.i64.wrap ((a : Int) - s) = ((a - s : Nat) : Int) := by rw [wrap64 (by omega)]; omega
      have w2 : IntKind.i64.wrap ((m : Int) - s) = ((m - s : Nat) : Int) := by rw [wrap64 (by omega)]; omega
      simp (maxSteps := 4000000) [List.getElem?_cons_zero, List.getElem?_cons_succ, hm1, hS, hc, w0, w1, w2]
      exact ⟨a - s, m - s, k + 1, ⟨by omega, by omega, by omega, by omega⟩, by omega, rfl, rfl, by simp⟩
  · have hm1 : ¬ 1 < m := by omega
    have e : stepsN a m = 0 := by unfold stepsN; rw [pathN, dif_neg hm]; rfl
    have g5 : stepsN i n = k := by omega
    simp (maxSteps := 4000000) [List.getElem?_cons_zero, List.getElem?_cons_succ, hm1, g5, Tryz.results86]
end Go.Proofs.Tryz.Ai
end
section
/- tlog: nodes; the hash that a path makes. -/
namespace Go.Proofs.Tryz.Ai
open Go Go.AI Go.Proofs
set_option maxHeartbeats 2000000
set_option linter.unusedVariables false

def nodeB (l r : List UInt8) : List UInt8 := sha256 (1 :: (l ++ r))
theorem nodeB_len (l r : List UInt8) : (nodeB l r).length = 32 := sha256_len _
theorem Node_eq (o o' : Own) (l r : List UInt8) (hl : l.length ≤ 2 ^ 28) (hr : r.length ≤ 2 ^ 28) (σ) : ev 73 [.sl o (l.map .u8), .sl o' (r.map .u8)] σ = some (.sl (.ex 5 1) ((nodeB l r).map .u8), σ) := by
  have h1 := fun σ => SHA256_eq .sh (1 :: (l ++ r)) (by simp; omega) σ
  have h2 : 1 + l.length ≤ most := by unfold most; omega
  have h3 : l.length + 1 + r.length ≤ most := by unfold most; omega
  simp only [List.map_cons, List.map_append, AV.u8, show ((UInt8.toNat 1 : Nat) : Int) = 1 from rfl] at h1
  unfold nodeB
  refine EV_post rfl Tryz.func73 rfl (by simp [Tryz.ntmps73]) (by kernel_rfl) (by kernel_rfl) ?_
  simp (maxSteps := 4000000) [List.getElem?_cons_zero, List.getElem?_cons_succ, h1, h2, h3, Tryz.results73]
theorem rNode_eq (o o' : Own) (l r : List UInt8) (hl : l.length ≤ 2 ^ 28) (hr : r.length ≤ 2 ^ 28) (σ) : ev 102 [.sl o (l.map .u8), .sl o' (r.map .u8)] σ = some (.sl (.ex 5 1) ((nodeB l r).map .u8), σ) := by
  have h1 := fun σ => rSHA256_eq .sh (1 :: (l ++ r)) (by simp; omega) σ
  have h2 : 1 + l.length ≤ most := by unfold most; omega
  have h3 : l.length + 1 + r.length ≤ most := by unfold most; omega
  simp only [List.map_cons, List.map_append, AV.u8, show ((UInt8.toNat 1 : Nat) : Int) = 1 from rfl] at h1
  unfold nodeB
  refine EV_post rfl Tryz.func102 rfl (by simp [Tryz.ntmps102]) (by kernel_rfl) (by kernel_rfl) ?_
  simp (maxSteps := 4000000) [List.getElem?_cons_zero, List.getElem?_cons_succ, h1, h2, h3, Tryz.results102]
theorem Equal_eq (o o' : Own) (a b : List UInt8) (σ) : ev 81 [.sl o (a.map .u8), .sl o' (b.map .u8)] σ = some (.bool (a == b), σ) := by
  have hb := bytesOf_map
  refine EV_post rfl Tryz.func81 rfl (by simp [Tryz.ntmps81]) (by kernel_rfl) (by kernel_rfl) ?_
  simp (maxSteps := 4000000) [List.getElem?_cons_zero, List.getElem?_cons_succ, -AV.u8, hb, Tryz.results81]
theorem SameBytes_eq (o o' : Own) (a b : List UInt8) (ha : a.length ≤ 2 ^ 40) (σ) : ev 17 [.sl o (a.map .u8), .sl o' (b.map .u8)] σ = some (.bool (a == b), σ) := by
  refine EV_post rfl Tryz.func17 rfl (by simp [Tryz.ntmps17]) (by kernel_rfl) (by kernel_rfl) ?_
  by_cases hl : a.length = b.length
  · simp (maxSteps := 4000000) [List.getElem?_cons_zero, List.getElem?_cons_succ, hl]
    refine Post_loop (I := fun i : Nat => ⟨[(0, .sl o (a.map .u8)), (1, .sl o' (b.map .u8)), (5, .int .i64 i)], [], σ⟩) (Pr := fun i => i ≤ a.length ∧ a.take i = b.take i) (μ := fun i => a.length - i) (a := 0) (by simp) (by simp) ?_
    rintro i ⟨hi, he⟩
    by_cases hc : i < b.length
    · obtain ⟨x, hx⟩ : ∃ x, a[i]? = some x := ⟨_, List.getElem?_eq_getElem (by omega)⟩
      obtain ⟨y, hy⟩ : ∃ y, b[i]? = some y := ⟨_, List.getElem?_eq_getElem (by omega)⟩
      have w1 : IntKind.i64.wrap ((i : Int) + 1) = (i : Int) + 1 := wrap64 (by omega)
      by_cases hxy : x = y
      · subst hxy
        simp (maxSteps := 4000000) [List.getElem?_cons_zero, List.getElem?_cons_succ, -getElem?_pos, hl, hc, hx, hy, w1]
        refine ⟨i + 1, ⟨by omega, ?_⟩, by omega, by simp⟩
        rw [List.take_add_one, List.take_add_one, he, hx, hy]
      · have hne : (a == b) = false := by
          rw [beq_eq_false_iff_ne]; intro e; rw [e, hy] at hx; injection hx with hx; exact hxy hx.symm
        simp (maxSteps := 4000000) [List.getElem?_cons_zero, List.getElem?_cons_succ, -getElem?_pos, hl, hc, hx, hy, hxy, hne, Tryz.results17]
    · have h1 : a = b := by
        rw [← List.take_of_length_le (show a.length ≤ i by omega), ← List.take_of_length_le (show b.length ≤ i by omega), he]
      have h2 : (a == b) = true := by simpa using h1
      simp (maxSteps := 4000000) [List.getElem?_cons_zero, List.getElem?_cons_succ, hl, hc, h2, Tryz.results17]
  · have h2 : (a == b) = false := by rw [beq_eq_false_iff_ne]; intro e; exact hl (by rw [e])
    simp (maxSteps := 4000000) [List.getElem?_cons_zero, List.getElem?_cons_succ, hl, h2, Tryz.results17]
theorem climbB_len (n : Nat) : ∀ (p : List (List UInt8)) (i : Nat) (leaf : List UInt8), leaf.length ≤ 2 ^ 27 → (climbB nodeB p i n leaf).length ≤ 2 ^ 27 := by
  intro p i leaf hl
  rw [climbB]
  split
  · split <;> rw [nodeB_len] <;> omega
  · exact hl
/-- hashes, as the program holds them -/
abbrev hs (p : List (List UInt8)) : List AV := p.map fun l => .sl .sh (l.map .u8)
theorem climb_eq (n : Nat) : ∀ (p : List (List UInt8)) (i : Nat) (leaf : List UInt8), 1 ≤ n → i < n → n ≤ 2 ^ 30 → p.length = stepsN i n → (∀ x ∈ p, x.length ≤ 2 ^ 27) → leaf.length ≤ 2 ^ 27 → ∀ (σ : List (List AV)),
    ∃ o, ev 82 [.sl .sh (hs p), .int .i64 i, .int .i64 n, .sl .sh (leaf.map .u8)] σ = some (.sl o ((climbB nodeB p i n leaf).map .u8), σ) := by
  induction n using Nat.strongRecOn with
  | _ n ih =>
    intro p i leaf h1 hi hn hp hx hl σ
    by_cases h2 : 2 ≤ n
    · have hsp := halfN_spec h2
      have hH := half_eq n h2 (by omega)
      rw [stepsN_pos h2] at hp
      obtain ⟨k, hk⟩ : ∃ k, (if i < halfN n then stepsN i (halfN n) else stepsN (i - halfN n) (n - halfN n)) = k := ⟨_, rfl⟩
      rw [hk] at hp
      have hkl : k ≤ n := by
        rw [← hk]; split
        · have := pathN_le (halfN n) i 0; unfold stepsN; omega
        · have := pathN_le (n - halfN n) (i - halfN n) 0; unfold stepsN; omega
      obtain ⟨z, hz⟩ : ∃ z, p[k]? = some z := ⟨_, List.getElem?_eq_getElem (by omega)⟩
      have hzm : z.length ≤ 2 ^ 27 := hx z (List.mem_of_getElem? hz)
      have hpt : ∀ x ∈ p.take k, x.length ≤ 2 ^ 27 := fun x h => hx x (List.mem_of_mem_take h)
      have hkk : (p.take k).length = k := by simp; omega
      have hD : p.getD (p.length - 1) [] = z := by rw [hp, Nat.add_sub_cancel]; simp [List.getD, hz]
      have e : climbB nodeB p i n leaf = if i < halfN n then nodeB (climbB nodeB (p.take k) i (halfN n) leaf) z else nodeB z (climbB nodeB (p.take k) (i - halfN n) (n - halfN n) leaf) := by
        rw [climbB, dif_pos h2, hD, hp, Nat.add_sub_cancel]
      rw [e]
      have ihA := ih (halfN n) hsp.2.1 (p.take k) i leaf hsp.1
      have ihB := ih (n - halfN n) (by omega) (p.take k) (i - halfN n) leaf (by omega)
      have w0 : IntKind.i64.wrap ((p.length : Int) - 1) = (k : Int) := by rw [wrap64 (by omega)]; omega
      have w1 : IntKind.i64.wrap (k : Int) = (k : Int) := wrap64 (by omega)
      have hn1 : ¬ n = 1 := by omega
      have q0 : k ≤ p.length := by omega
      by_cases hc : i < halfN n
      · rw [if_pos hc] at hk ⊢
        obtain ⟨o, ho⟩ := ihA hc (by omega) (by rw [hkk, hk]) hpt hl σ
        have hN := Node_eq .sh .sh (climbB nodeB (p.take k) i (halfN n) leaf) z (by have := climbB_len (halfN n) (p.take k) i leaf hl; omega) (by omega)
        generalize climbB nodeB (p.take k) i (halfN n) leaf = C at ho hN
        generalize halfN n = s at hH ho hc
        simp only [hs, List.map_take] at ho
        refine ⟨.ex 5 1, ?_⟩
        refine EV_post rfl Tryz.func82 rfl (by simp [Tryz.ntmps82]) (by kernel_rfl) (by kernel_rfl) ?_
        simp (maxSteps := 4000000) [List.getElem?_cons_zero, List.getElem?_cons_succ, -getElem?_pos, hn1, hH, w0, w1, hp, hz, q0, hc, ho, hN, Tryz.results82]
      · rw [if_neg hc] at hk ⊢
        obtain ⟨o, ho⟩ := ihB (by omega) (by omega) (by rw [hkk, hk]) hpt hl σ
        have hN := Node_eq .sh .sh z (climbB nodeB (p.take k) (i - halfN n) (n - halfN n) leaf) (by omega) (by have := climbB_len (n - halfN n) (p.take k) (i - halfN n) leaf hl; omega)
        generalize climbB nodeB (p.take k) (i - halfN n) (n - halfN n) leaf = C at ho hN
        obtain ⟨s, hsd⟩ : ∃ s, halfN n = s := ⟨_, rfl⟩
        rw [hsd] at hH ho hc hsp
        have w3 : IntKind.i64.wrap ((i : Int) - s) = ((i - s : Nat) : Int) := by rw [wrap64 (by omega)]; omega
        have w4 : IntKind.i64.wrap ((n : Int) - s) = ((n - s : Nat) : Int) := by rw [wrap64 (by omega)]; omega
        simp only [hs, List.map_take] at ho
        refine ⟨.ex 5 1, ?_⟩
        refine EV_post rfl Tryz.func82 rfl (by simp [Tryz.ntmps82]) (by kernel_rfl) (by kernel_rfl) ?_
        simp (maxSteps := 4000000) [List.getElem?_cons_zero, List.getElem?_cons_succ, -getElem?_pos, hn1, hH, w0, w1, w3, w4, hp, hz, q0, hc, ho, hN, Tryz.results82]
    · have hn1 : n = 1 := by omega
      subst hn1
      have e : climbB nodeB p i 1 leaf = leaf := by rw [climbB, dif_neg (by omega)]
      rw [e]
      refine ⟨.sh, ?_⟩
      refine EV_post rfl Tryz.func82 rfl (by simp [Tryz.ntmps82]) (by kernel_rfl) (by kernel_rfl) ?_
      simp (maxSteps := 4000000) [List.getElem?_cons_zero, List.getElem?_cons_succ, Tryz.results82]
end Go.Proofs.Tryz.Ai
end
section
/- tlog: the hashes that a proof makes, by the document; proofs of longer logs. -/
namespace Go.Proofs.Tryz.Ai
open Go Go.AI Go.Proofs
set_option maxHeartbeats 2000000
set_option linter.unusedVariables false

theorem rclimb_eq (n : Nat) : ∀ (p : List (List UInt8)) (i : Nat) (leaf : List UInt8), 1 ≤ n → i < n → n ≤ 2 ^ 30 → p.length = stepsN i n → (∀ x ∈ p, x.length ≤ 2 ^ 27) → leaf.length ≤ 2 ^ 27 → ∀ (σ : List (List AV)),
    ∃ o, ev 88 [.int .i64 i, .int .i64 n, .sl .sh (leaf.map .u8), .sl .sh (hs p)] σ = some (.sl o ((climbB nodeB p i n leaf).map .u8), σ) := by
  induction n using Nat.strongRecOn with
  | _ n ih =>
    intro p i leaf h1 hi hn hp hx hl σ
    by_cases h2 : 2 ≤ n
    · have hsp := halfN_spec h2
      have hH := split_eq n h2 (by omega)
      rw [stepsN_pos h2] at hp
      obtain ⟨k, hk⟩ : ∃ k, (if i < halfN n then stepsN i (halfN n) else stepsN (i - halfN n) (n - halfN n)) = k := ⟨_, rfl⟩
      rw [hk] at hp
      have hkl : k ≤ n := by
        rw [← hk]; split
        · have := pathN_le (halfN n) i 0; unfold stepsN; omega
        · have := pathN_le (n - halfN n) (i - halfN n) 0; unfold stepsN; omega
      obtain ⟨z, hz⟩ : ∃ z, p[k]? = some z := ⟨_, List.getElem?_eq_getElem (by omega)⟩
      have hzm : z.length ≤ 2 ^ 27 := hx z (List.mem_of_getElem? hz)
      have hpt : ∀ x ∈ p.take k, x.length ≤ 2 ^ 27 := fun x h => hx x (List.mem_of_mem_take h)
      have hkk : (p.take k).length = k := by simp; omega
      have hD : p.getD (p.length - 1) [] = z := by rw [hp, Nat.add_sub_cancel]; simp [List.getD, hz]
      have e : climbB nodeB p i n leaf = if i < halfN n then nodeB (climbB nodeB (p.take k) i (halfN n) leaf) z else nodeB z (climbB nodeB (p.take k) (i - halfN n) (n - halfN n) leaf) := by
        rw [climbB, dif_pos h2, hD, hp, Nat.add_sub_cancel]
      rw [e]
      have ihA := ih (halfN n) hsp.2.1 (p.take k) i leaf hsp.1
      have ihB := ih (n - halfN n) (by omega) (p.take k) (i - halfN n) leaf (by omega)
      have w0 : IntKind.i64.wrap ((p.length : Int) - 1) = (k : Int) := by rw [wrap64 (by omega)]; omega
      have w1 : IntKind.i64.wrap (k : Int) = (k : Int) := wrap64 (by omega)
      have hn1 : ¬ n = 1 := by omega
      have q0 : k ≤ p.length := by omega
      by_cases hc : i < halfN n
      · rw [if_pos hc] at hk ⊢
        obtain ⟨o, ho⟩ := ihA hc (by omega) (by rw [hkk, hk]) hpt hl σ
        have hN := rNode_eq .sh .sh (climbB nodeB (p.take k) i (halfN n) leaf) z (by have := climbB_len (halfN n) (p.take k) i leaf hl; omega) (by omega)
        generalize climbB nodeB (p.take k) i (halfN n) leaf = C at ho hN
        generalize halfN n = s at hH ho hc
        simp only [hs, List.map_take] at ho
        refine ⟨.ex 5 1, ?_⟩
        refine EV_post rfl Tryz.func88 rfl (by simp [Tryz.ntmps88]) (by kernel_rfl) (by kernel_rfl) ?_
        simp (maxSteps := 4000000) [List.getElem?_cons_zero, List.getElem?_cons_succ, -getElem?_pos, hn1, hH, w0, w1, hp, hz, q0, hc, ho, hN, Tryz.results88]
      · rw [if_neg hc] at hk ⊢
        obtain ⟨o, ho⟩ := ihB (by omega) (by omega) (by rw [hkk, hk]) hpt hl σ
        have hN := rNode_eq .sh .sh z (climbB nodeB (p.take k) (i - halfN n) (n - halfN n) leaf) (by omega) (by have := climbB_len (n - halfN n) (p.take k) (i - halfN n) leaf hl; omega)
        generalize climbB nodeB (p.take k) (i - halfN n) (n - halfN n) leaf = C at ho hN
        obtain ⟨s, hsd⟩ : ∃ s, halfN n = s := ⟨_, rfl⟩
        rw [hsd] at hH ho hc hsp
        have w3 : IntKind.i64.wrap ((i : Int) - s) = ((i - s : Nat) : Int) := by rw [wrap64 (by omega)]; omega
        have w4 : IntKind.i64.wrap ((n : Int) - s) = ((n - s : Nat) : Int) := by rw [wrap64 (by omega)]; omega
        simp only [hs, List.map_take] at ho
        refine ⟨.ex 5 1, ?_⟩
        refine EV_post rfl Tryz.func88 rfl (by simp [Tryz.ntmps88]) (by kernel_rfl) (by kernel_rfl) ?_
        simp (maxSteps := 4000000) [List.getElem?_cons_zero, List.getElem?_cons_succ, -getElem?_pos, hn1, hH, w0, w1, w3, w4, hp, hz, q0, hc, ho, hN, Tryz.results88]
    · have hn1 : n = 1 := by omega
      subst hn1
      have e : climbB nodeB p i 1 leaf = leaf := by rw [climbB, dif_neg (by omega)]
      rw [e]
      refine ⟨.sh, ?_⟩
      refine EV_post rfl Tryz.func88 rfl (by simp [Tryz.ntmps88]) (by kernel_rfl) (by kernel_rfl) ?_
      simp (maxSteps := 4000000) [List.getElem?_cons_zero, List.getElem?_cons_succ, Tryz.results88]

theorem subproof_eq (n : Nat) : ∀ (m frm : Nat) (w : Bool), 0 < m → m ≤ n → frm + n ≤ 2 ^ 30 → ∀ σ, ev 84 [.int .i64 m, .agg [.int .i64 frm, .int .i64 n], .bool w] σ = some (.sl (.ex 113 2) ((subN m frm n w).map spanA), σ) := by
  induction n using Nat.strongRecOn with
  | _ n ih =>
    intro m frm w h1 hi hf σ
    refine EV_post rfl Tryz.func84 rfl (by simp [Tryz.ntmps84]) (by kernel_rfl) (by kernel_rfl) ?_
    by_cases hn : m = n
    · subst hn
      cases w with
      | true =>
        have e : subN m frm m true = [] := by rw [subN, dif_neg (by omega)]; rfl
        simp (maxSteps := 4000000) [List.getElem?_cons_zero, List.getElem?_cons_succ, e, Tryz.results84]
      | false =>
        have e : subN m frm m false = [(frm, m)] := by rw [subN, dif_neg (by omega)]; rfl
        simp (maxSteps := 4000000) [List.getElem?_cons_zero, List.getElem?_cons_succ, e, spanA, Tryz.results84]
    · have h2 : 2 ≤ n := by omega
      have hs := halfN_spec h2
      have hH := half_eq n h2 (by omega)
      have e : subN m frm n w = if m ≤ halfN n then subN m frm (halfN n) w ++ [(frm + halfN n, n - halfN n)] else subN (m - halfN n) (frm + halfN n) (n - halfN n) false ++ [(frm, halfN n)] := by
        rw [subN, dif_pos (by omega)]
      have hle : ∀ m a w, (subN m a (halfN n) w).length ≤ n + 1 ∧ (subN m a (n - halfN n) w).length ≤ n + 1 := fun i a w => ⟨by have := subN_le (halfN n) i a w; omega, by have := subN_le (n - halfN n) i a w; omega⟩
      rw [e]
      have ihA := ih (halfN n) hs.2.1 m frm w h1
      have ihB := ih (n - halfN n) (by omega) (m - halfN n) (frm + halfN n) false
      obtain ⟨s, hsd⟩ : ∃ s, halfN n = s := ⟨_, rfl⟩
      rw [hsd] at hs hH ihA ihB hle ⊢
      have w1 : IntKind.i64.wrap ((frm : Int) + s) = ((frm + s : Nat) : Int) := by rw [wrap64 (by omega)]; omega
      have w2 : IntKind.i64.wrap ((n : Int) - s) = ((n - s : Nat) : Int) := by rw [wrap64 (by omega)]; omega
      obtain ⟨f2, hf2⟩ : ∃ f2, frm + s = f2 := ⟨_, rfl⟩
      obtain ⟨n2, hn2⟩ : ∃ n2, n - s = n2 := ⟨_, rfl⟩
      rw [hf2] at w1 ihB ⊢
      rw [hn2] at w2 ihB hle ⊢
      by_cases hc : m ≤ s
      · have ihA' := ihA hc (by omega)
        have q := (hle m frm w).1
        have q2 : (subN m frm s w).length + 1 ≤ most := by unfold most; omega
        rw [if_pos hc]
        generalize subN m frm s w = L at ihA' q2
        simp (maxSteps := 4000000) [List.getElem?_cons_zero, List.getElem?_cons_succ, hn, hH, w1, w2, hc, ihA', q2, spanA, Tryz.results84]
      · have w3 : IntKind.i64.wrap ((m : Int) - s) = ((m - s : Nat) : Int) := by rw [wrap64 (by omega)]; omega
        have ihB' := ihB (by omega) (by omega) (by omega)
        have q := (hle (m - s) f2 false).2
        have q2 : (subN (m - s) f2 n2 false).length + 1 ≤ most := by unfold most; omega
        rw [if_neg hc]
        generalize subN (m - s) f2 n2 false = L at ihB' q2
        obtain ⟨i2, hi2⟩ : ∃ i2, m - s = i2 := ⟨_, rfl⟩
        rw [hi2] at w3 ihB'
        simp (maxSteps := 4000000) [List.getElem?_cons_zero, List.getElem?_cons_succ, hn, hH, w1, w2, w3, hc, ihB', q2, spanA, Tryz.results84]
theorem subSteps_eq (m n : Nat) (w : Bool) (h1 : 0 < m) (hi : m ≤ n) (hn : n ≤ 2 ^ 30) (σ) : ev 89 [.int .i64 m, .int .i64 n, .bool w] σ = some (.int .i64 (subStepsN m n w), σ) := by
  refine EV_post rfl Tryz.func89 rfl (by simp [Tryz.ntmps89]) (by kernel_rfl) (by kernel_rfl) ?_
  simp (maxSteps := 4000000) (disch := omega) [dT, dF, wrap64]
  refine Post_loop (I := fun p : Nat × Nat × Bool × Nat => ⟨[(0, .int .i64 p.1), (1, .int .i64 p.2.1), (2, .bool p.2.2.1), (7, .int .i64 p.2.2.2)], [], σ⟩) (Pr := fun p => 0 < p.1 ∧ p.1 ≤ p.2.1 ∧ p.2.1 ≤ n ∧ p.2.2.2 + subStepsN p.1 p.2.1 p.2.2.1 = subStepsN m n w) (μ := fun p => p.2.1) (a := (m, n, w, 0)) (by simp) ⟨h1, hi, by simp, by simp⟩ ?_
  rintro ⟨a, b, v, k⟩ ⟨g1, g2, g3, g4⟩
  simp only at g1 g2 g3 g4 ⊢
  have hle : subStepsN m n w ≤ n + 1 := subN_le _ _ _ _
  have w0 : IntKind.i64.wrap ((k : Int) + 1) = (k : Int) + 1 := wrap64 (by omega)
  by_cases hm : a = b
  · subst hm
    have e : subStepsN a a v = if v then 0 else 1 := subStepsN_end (by omega)
    cases v with
    | true =>
      have g5 : subStepsN m n w = k := by rw [e] at g4; simpa using g4.symm
      simp (maxSteps := 4000000) [List.getElem?_cons_zero, List.getElem?_cons_succ, g5, Tryz.results89]
    | false =>
      have g5 : subStepsN m n w = k + 1 := by rw [e] at g4; simpa using g4.symm
      simp (maxSteps := 4000000) [List.getElem?_cons_zero, List.getElem?_cons_succ, g5, w0, Tryz.results89]
  · have hb2 : 2 ≤ b := by omega
    have hs := halfN_spec hb2
    have hS := split_eq b hb2 (by omega)
    have e := subStepsN_pos (m := a) (n := b) (w := v) (by omega)
    obtain ⟨s, hsd⟩ : ∃ s, halfN b = s := ⟨_, rfl⟩
    rw [hsd] at hs hS e
    rw [e] at g4
    by_cases hc : a ≤ s
    · rw [if_pos hc] at g4
      simp (maxSteps := 4000000) [List.getElem?_cons_zero, List.getElem?_cons_succ, hm, hS, hc, w0]
      cases v
      · exact ⟨a, s, .inl ⟨k + 1, ⟨by omega, by omega, by omega, by omega⟩, by omega, rfl, rfl, rfl, by simp⟩⟩
      · exact ⟨a, s, .inr ⟨k + 1, ⟨by omega, by omega, by omega, by omega⟩, by omega, rfl, rfl, rfl, by simp⟩⟩
    · rw [if_neg hc] at g4
      have w1 : IntKind.i64.wrap ((a : Int) - s) = ((a - s : Nat) : Int) := by rw [wrap64 (by omega)]; omega
      have w2 : IntKind.i64.wrap ((b : Int) - s) = ((b - s : Nat) : Int) := by rw [wrap64 (by omega)]; omega
      simp (maxSteps := 4000000) [List.getElem?_cons_zero, List.getElem?_cons_succ, hm, hS, hc, w0, w1, w2]
      exact ⟨a - s, b - s, k + 1, ⟨by omega, by omega, by omega, by omega⟩, by omega, by omega, by omega, by simp⟩
end Go.Proofs.Tryz.Ai
end
section
/- tlog: proofs are checked. -/
namespace Go.Proofs.Tryz.Ai
open Go Go.AI Go.Proofs
set_option maxHeartbeats 2000000
set_option linter.unusedVariables false

theorem take_all' {α β : Type} {s : List α} {p : α → β} {v : β} {i : Nat} (hc : i < s.length) (hn : ∀ x ∈ s.take i, p x = v) (hq : p s[i] = v) : ∀ x ∈ s.take (i + 1), p x = v := by
  intro x hx
  rw [List.take_succ_eq_append_getElem hc, List.mem_append] at hx
  rcases hx with hx | hx
  · exact hn x hx
  · simp at hx; subst hx; exact hq
def is32 (x : List UInt8) : Bool := decide (x.length = 32)
theorem good_eq (p : List (List UInt8)) (hl : p.length ≤ 2 ^ 40) (σ) : ev 87 [.sl .sh (hs p)] σ = some (.bool (p.all is32), σ) := by
  refine EV_post rfl Tryz.func87 rfl (by simp [Tryz.ntmps87]) (by kernel_rfl) (by kernel_rfl) ?_
  simp (maxSteps := 4000000) (disch := omega) [dT, dF, wrap64]
  refine Post_loop (I := fun i : Nat => ⟨[(0, .sl .sh (hs p)), (3, .int .i64 i)], [], σ⟩) (Pr := fun i => i ≤ p.length ∧ ∀ x ∈ p.take i, is32 x = true) (μ := fun i => p.length - i) (a := 0) (by simp) (by simp) ?_
  rintro i ⟨hi, hn⟩
  by_cases hc : i < p.length
  · obtain ⟨x, hcx⟩ : ∃ x, p[i] = x := ⟨_, rfl⟩
    have hx : p[i]? = some x := by rw [← hcx]; exact List.getElem?_eq_getElem hc
    have w1 : IntKind.i64.wrap ((i : Int) + 1) = (i : Int) + 1 := wrap64 (by omega)
    by_cases h : x.length = 32
    · simp (maxSteps := 4000000) [List.getElem?_cons_zero, List.getElem?_cons_succ, -getElem?_pos, hc, hx, h, w1]
      exact ⟨i + 1, ⟨by omega, take_all' hc hn (by rw [hcx]; simp [is32, h])⟩, by omega, by simp⟩
    · have hf : p.all is32 = false := by
        rw [Bool.eq_false_iff]; intro e
        have := List.all_eq_true.1 e _ (List.getElem_mem hc)
        rw [hcx] at this; simp [is32] at this; exact h this
      simp (maxSteps := 4000000) [List.getElem?_cons_zero, List.getElem?_cons_succ, -getElem?_pos, hc, hx, h, hf, Tryz.results87]
  · have hi' : i = p.length := by omega
    subst hi'
    rw [List.take_length] at hn
    have ht : p.all is32 = true := List.all_eq_true.2 hn
    simp (maxSteps := 4000000) [List.getElem?_cons_zero, List.getElem?_cons_succ, hc, ht, Tryz.results87]
theorem whole_eq (n : Nat) (p q : List (List UInt8)) (hp : p.length ≤ 2 ^ 40) (hq : q.length ≤ 2 ^ 40) (σ) :
    ev 79 [.int .i64 n, .sl .sh (hs p), .sl .sh (hs q)] σ = some (.bool (decide (p.length = n) && (p.all is32 && q.all is32)), σ) := by
  refine EV_post rfl Tryz.func79 rfl (by simp [Tryz.ntmps79]) (by kernel_rfl) (by kernel_rfl) ?_
  by_cases h0 : p.length = n
  · simp (maxSteps := 4000000) [List.getElem?_cons_zero, List.getElem?_cons_succ, h0]
    have w1 : ∀ i : Nat, i ≤ 2 ^ 41 → IntKind.i64.wrap ((i : Int) + 1) = (i : Int) + 1 := fun i h => wrap64 (by omega)
    refine Post_loop (I := fun i : Nat => ⟨[(17, .sl (.ex 22 1) ([p, q].map fun x => .sl .sh (hs x))), (18, .int .i64 2), (19, .int .i64 i)], [], σ⟩) (Pr := fun i => i ≤ 2 ∧ ∀ x ∈ [p, q].take i, ∀ y ∈ x, is32 y = true) (μ := fun i => 2 - i) (a := 0) (by simp) (by simp) ?_
    rintro i ⟨hi, hn⟩
    by_cases hc : i < 2
    · rcases (show i = 0 ∨ i = 1 by omega) with rfl | rfl
      · simp (maxSteps := 4000000) [List.getElem?_cons_zero, List.getElem?_cons_succ, hc]
        refine Post_loop (I := fun j : Nat => ⟨[(17, .sl (.ex 22 1) [.sl .sh (hs p), .sl .sh (hs q)]), (18, .int .i64 2), (19, .int .i64 0), (23, .sl .sh (hs p)), (24, .int .i64 p.length), (25, .int .i64 j)], [], σ⟩) (Pr := fun j => j ≤ p.length ∧ ∀ y ∈ p.take j, is32 y = true) (μ := fun j => p.length - j) (a := 0) (by simp) (by simp) ?_
        rintro j ⟨hj, hjn⟩
        have hw2 := w1 j (by omega)
        by_cases hcj : j < p.length
        · obtain ⟨y, hyx⟩ : ∃ y, p[j] = y := ⟨_, rfl⟩
          have hy : p[j]? = some y := by rw [← hyx]; exact List.getElem?_eq_getElem hcj
          by_cases h : y.length = 32
          · simp (maxSteps := 4000000) [List.getElem?_cons_zero, List.getElem?_cons_succ, -getElem?_pos, hcj, hy, h, hw2]
            exact ⟨j + 1, ⟨by omega, take_all' hcj hjn (by rw [hyx]; simp [is32, h])⟩, by omega, by simp⟩
          · have hf : p.all is32 = false := by
              rw [Bool.eq_false_iff]; intro e
              have := List.all_eq_true.1 e _ (List.getElem_mem hcj)
              rw [hyx] at this; simp [is32] at this; exact h this
            have hg : (p.all is32 && q.all is32) = false := by rw [hf]; simp
            simp (maxSteps := 4000000) [List.getElem?_cons_zero, List.getElem?_cons_succ, -getElem?_pos, hcj, hy, h, hf, Tryz.results79]
        · have hj' : j = p.length := by omega
          subst hj'
          rw [List.take_length] at hjn
          have ht : p.all is32 = true := List.all_eq_true.2 hjn
          have hw3 := w1 0 (by omega)
          have hn2 : ∀ z ∈ [p, q].take 1, ∀ y ∈ z, is32 y = true := by intro z hz; simp at hz; subst hz; exact hjn
          simp (maxSteps := 4000000) [List.getElem?_cons_zero, List.getElem?_cons_succ, hcj, hw3]
          exact ⟨1, ⟨by omega, hn2⟩, by omega, by simp; decide⟩
      · simp (maxSteps := 4000000) [List.getElem?_cons_zero, List.getElem?_cons_succ, hc]
        refine Post_loop (I := fun j : Nat => ⟨[(17, .sl (.ex 22 1) [.sl .sh (hs p), .sl .sh (hs q)]), (18, .int .i64 2), (19, .int .i64 1), (23, .sl .sh (hs q)), (24, .int .i64 q.length), (25, .int .i64 j)], [], σ⟩) (Pr := fun j => j ≤ q.length ∧ ∀ y ∈ q.take j, is32 y = true) (μ := fun j => q.length - j) (a := 0) (by simp) (by simp) ?_
        rintro j ⟨hj, hjn⟩
        have hw2 := w1 j (by omega)
        by_cases hcj : j < q.length
        · obtain ⟨y, hyx⟩ : ∃ y, q[j] = y := ⟨_, rfl⟩
          have hy : q[j]? = some y := by rw [← hyx]; exact List.getElem?_eq_getElem hcj
          by_cases h : y.length = 32
          · simp (maxSteps := 4000000) [List.getElem?_cons_zero, List.getElem?_cons_succ, -getElem?_pos, hcj, hy, h, hw2]
            exact ⟨j + 1, ⟨by omega, take_all' hcj hjn (by rw [hyx]; simp [is32, h])⟩, by omega, by simp⟩
          · have hf : q.all is32 = false := by
              rw [Bool.eq_false_iff]; intro e
              have := List.all_eq_true.1 e _ (List.getElem_mem hcj)
              rw [hyx] at this; simp [is32] at this; exact h this
            have hg : (p.all is32 && q.all is32) = false := by rw [hf]; simp
            simp (maxSteps := 4000000) [List.getElem?_cons_zero, List.getElem?_cons_succ, -getElem?_pos, hcj, hy, h, hf, Tryz.results79]
        · have hj' : j = q.length := by omega
          subst hj'
          rw [List.take_length] at hjn
          have ht : q.all is32 = true := List.all_eq_true.2 hjn
          have hw3 := w1 1 (by omega)
          have hn2 : ∀ z ∈ [p, q].take 2, ∀ y ∈ z, is32 y = true := by intro z hz; simp at hz; rcases hz with rfl | rfl; exact hn _ (by simp); exact hjn
          simp (maxSteps := 4000000) [List.getElem?_cons_zero, List.getElem?_cons_succ, hcj, hw3]
          exact ⟨2, ⟨by omega, hn2⟩, by omega, by simp; decide⟩
    · have hi' : i = 2 := by omega
      subst hi'
      have hp1 : p.all is32 = true := List.all_eq_true.2 (hn p (by simp))
      have hq1 : q.all is32 = true := List.all_eq_true.2 (hn q (by simp))
      simp (maxSteps := 4000000) [List.getElem?_cons_zero, List.getElem?_cons_succ, hp1, hq1, Tryz.results79]
  · simp (maxSteps := 4000000) [List.getElem?_cons_zero, List.getElem?_cons_succ, h0, Tryz.results79]
end Go.Proofs.Tryz.Ai
end
section
/- tlog: the two hashes that a proof of a longer log makes. -/
namespace Go.Proofs.Tryz.Ai
open Go Go.AI Go.Proofs
set_option maxHeartbeats 2000000
set_option linter.unusedVariables false

theorem growB_len (n : Nat) (p : List (List UInt8)) (m : Nat) (w : Bool) (old : List UInt8) (hl : old.length ≤ 2 ^ 27) (hx : ∀ x ∈ p, x.length ≤ 2 ^ 27) : (growB nodeB p m n w old).1.length ≤ 2 ^ 27 ∧ (growB nodeB p m n w old).2.length ≤ 2 ^ 27 := by
  induction n using Nat.strongRecOn generalizing p m w old with
  | _ n ih =>
    rw [growB]
    split
    · rename_i h
      have hsp := halfN_spec (n := n) (by omega)
      split
      · have := ih (halfN n) hsp.2.1 (p.take (p.length - 1)) m w old hl (fun x h => hx x (List.mem_of_mem_take h))
        exact ⟨this.1, by rw [nodeB_len]; omega⟩
      · exact ⟨by rw [nodeB_len]; omega, by rw [nodeB_len]; omega⟩
    · split
      · exact ⟨hl, hl⟩
      · have : (p.getD 0 []).length ≤ 2 ^ 27 := by
          cases p with
          | nil => simp
          | cons a r => exact hx a (by simp)
        exact ⟨this, this⟩

theorem grow_eq (n : Nat) : ∀ (p : List (List UInt8)) (m : Nat) (w : Bool) (old : List UInt8), 0 < m → m ≤ n → n ≤ 2 ^ 30 → p.length = subStepsN m n w → (∀ x ∈ p, x.length ≤ 2 ^ 27) → old.length ≤ 2 ^ 27 → ∀ (σ : List (List AV)),
    ev 85 [.sl .sh (hs p), .int .i64 m, .int .i64 n, .bool w, .sl .sh (old.map .u8)] σ = some (.tup [.sl .sh ((growB nodeB p m n w old).1.map .u8), .sl .sh ((growB nodeB p m n w old).2.map .u8)], σ) := by
  induction n using Nat.strongRecOn with
  | _ n ih =>
    intro p m w old h0 hi hn hp hx hl σ
    by_cases h2 : m < n ∧ 0 < m
    · have hsp := halfN_spec (n := n) (by omega)
      have hH := half_eq n (by omega) (by omega)
      rw [subStepsN_pos h2] at hp
      obtain ⟨k, hk⟩ : ∃ k, (if m ≤ halfN n then subStepsN m (halfN n) w else subStepsN (m - halfN n) (n - halfN n) false) = k := ⟨_, rfl⟩
      rw [hk] at hp
      have hkl : k ≤ n := by
        rw [← hk]; split
        · have := subN_le (halfN n) m 0 w; unfold subStepsN; omega
        · have := subN_le (n - halfN n) (m - halfN n) 0 false; unfold subStepsN; omega
      obtain ⟨z, hz⟩ : ∃ z, p[k]? = some z := ⟨_, List.getElem?_eq_getElem (by omega)⟩
      have hzm : z.length ≤ 2 ^ 27 := hx z (List.mem_of_getElem? hz)
      have hpt : ∀ x ∈ p.take k, x.length ≤ 2 ^ 27 := fun x h => hx x (List.mem_of_mem_take h)
      have hkk : (p.take k).length = k := by simp; omega
      have hD : p.getD (p.length - 1) [] = z := by rw [hp, Nat.add_sub_cancel]; simp [List.getD, hz]
      have e : growB nodeB p m n w old = if m ≤ halfN n then ((growB nodeB (p.take k) m (halfN n) w old).1, nodeB (growB nodeB (p.take k) m (halfN n) w old).2 z)
          else (nodeB z (growB nodeB (p.take k) (m - halfN n) (n - halfN n) false old).1, nodeB z (growB nodeB (p.take k) (m - halfN n) (n - halfN n) false old).2) := by
        rw [growB, dif_pos h2, hD, hp, Nat.add_sub_cancel]
      rw [e]
      have ihA := ih (halfN n) hsp.2.1 (p.take k) m w old h0
      have ihB := ih (n - halfN n) (by omega) (p.take k) (m - halfN n) false old
      have w0 : IntKind.i64.wrap ((p.length : Int) - 1) = (k : Int) := by rw [wrap64 (by omega)]; omega
      have w1 : IntKind.i64.wrap (k : Int) = (k : Int) := wrap64 (by omega)
      have hn1 : ¬ m = n := by omega
      have q0 : k ≤ p.length := by omega
      by_cases hc : m ≤ halfN n
      · rw [if_pos hc] at hk ⊢
        have ho := ihA hc (by omega) (by rw [hkk, hk]) hpt hl σ
        have hg := growB_len (halfN n) (p.take k) m w old hl hpt
        have hN := Node_eq .sh .sh (growB nodeB (p.take k) m (halfN n) w old).2 z (by omega) (by omega)
        generalize growB nodeB (p.take k) m (halfN n) w old = C at ho hN
        generalize halfN n = s at hH ho hc
        simp only [hs, List.map_take] at ho
        refine EV_post rfl Tryz.func85 rfl (by simp [Tryz.ntmps85]) (by kernel_rfl) (by kernel_rfl) ?_
        simp (maxSteps := 4000000) [List.getElem?_cons_zero, List.getElem?_cons_succ, -getElem?_pos, hn1, hH, w0, w1, hp, hz, q0, hc, ho, hN, Tryz.results85]
      · rw [if_neg hc] at hk ⊢
        have ho := ihB (by omega) (by omega) (by omega) (by rw [hkk, hk]) hpt hl σ
        have hg := growB_len (n - halfN n) (p.take k) (m - halfN n) false old hl hpt
        have hN := Node_eq .sh .sh z (growB nodeB (p.take k) (m - halfN n) (n - halfN n) false old).1 (by omega) (by omega)
        have hN2 := Node_eq .sh .sh z (growB nodeB (p.take k) (m - halfN n) (n - halfN n) false old).2 (by omega) (by omega)
        generalize growB nodeB (p.take k) (m - halfN n) (n - halfN n) false old = C at ho hN hN2
        obtain ⟨s, hsd⟩ : ∃ s, halfN n = s := ⟨_, rfl⟩
        rw [hsd] at hH ho hc hsp
        have w3 : IntKind.i64.wrap ((m : Int) - s) = ((m - s : Nat) : Int) := by rw [wrap64 (by omega)]; omega
        have w4 : IntKind.i64.wrap ((n : Int) - s) = ((n - s : Nat) : Int) := by rw [wrap64 (by omega)]; omega
        simp only [hs, List.map_take] at ho
        refine EV_post rfl Tryz.func85 rfl (by simp [Tryz.ntmps85]) (by kernel_rfl) (by kernel_rfl) ?_
        simp (maxSteps := 4000000) [List.getElem?_cons_zero, List.getElem?_cons_succ, -getElem?_pos, hn1, hH, w0, w1, w3, w4, hp, hz, q0, hc, ho, hN, hN2, Tryz.results85]
    · have hn1 : m = n := by omega
      subst hn1
      rw [subStepsN_end h2] at hp
      cases w with
      | true =>
        have e : growB nodeB p m m true old = (old, old) := by rw [growB, dif_neg h2]; rfl
        rw [e]
        refine EV_post rfl Tryz.func85 rfl (by simp [Tryz.ntmps85]) (by kernel_rfl) (by kernel_rfl) ?_
        simp (maxSteps := 4000000) [List.getElem?_cons_zero, List.getElem?_cons_succ, Tryz.results85]
      | false =>
        obtain ⟨z, hz⟩ : ∃ z, p[0]? = some z := ⟨_, List.getElem?_eq_getElem (by simp at hp; omega)⟩
        have e : growB nodeB p m m false old = (z, z) := by rw [growB, dif_neg h2]; simp [List.getD, hz]
        rw [e]
        refine EV_post rfl Tryz.func85 rfl (by simp [Tryz.ntmps85]) (by kernel_rfl) (by kernel_rfl) ?_
        simp (maxSteps := 4000000) [List.getElem?_cons_zero, List.getElem?_cons_succ, -getElem?_pos, hz, Tryz.results85]

theorem two_eq (n : Nat) : ∀ (p : List (List UInt8)) (m : Nat) (w : Bool) (old : List UInt8), 0 < m → m ≤ n → n ≤ 2 ^ 30 → p.length = subStepsN m n w → (∀ x ∈ p, x.length ≤ 2 ^ 27) → old.length ≤ 2 ^ 27 → ∀ (σ : List (List AV)),
    ev 90 [.int .i64 m, .int .i64 n, .bool w, .sl .sh (old.map .u8), .sl .sh (hs p)] σ = some (.tup [.sl .sh ((growB nodeB p m n w old).1.map .u8), .sl .sh ((growB nodeB p m n w old).2.map .u8)], σ) := by
  induction n using Nat.strongRecOn with
  | _ n ih =>
    intro p m w old h0 hi hn hp hx hl σ
    by_cases h2 : m < n ∧ 0 < m
    · have hsp := halfN_spec (n := n) (by omega)
      have hH := split_eq n (by omega) (by omega)
      rw [subStepsN_pos h2] at hp
      obtain ⟨k, hk⟩ : ∃ k, (if m ≤ halfN n then subStepsN m (halfN n) w else subStepsN (m - halfN n) (n - halfN n) false) = k := ⟨_, rfl⟩
      rw [hk] at hp
      have hkl : k ≤ n := by
        rw [← hk]; split
        · have := subN_le (halfN n) m 0 w; unfold subStepsN; omega
        · have := subN_le (n - halfN n) (m - halfN n) 0 false; unfold subStepsN; omega
      obtain ⟨z, hz⟩ : ∃ z, p[k]? = some z := ⟨_, List.getElem?_eq_getElem (by omega)⟩
      have hzm : z.length ≤ 2 ^ 27 := hx z (List.mem_of_getElem? hz)
      have hpt : ∀ x ∈ p.take k, x.length ≤ 2 ^ 27 := fun x h => hx x (List.mem_of_mem_take h)
      have hkk : (p.take k).length = k := by simp; omega
      have hD : p.getD (p.length - 1) [] = z := by rw [hp, Nat.add_sub_cancel]; simp [List.getD, hz]
      have e : growB nodeB p m n w old = if m ≤ halfN n then ((growB nodeB (p.take k) m (halfN n) w old).1, nodeB (growB nodeB (p.take k) m (halfN n) w old).2 z)
          else (nodeB z (growB nodeB (p.take k) (m - halfN n) (n - halfN n) false old).1, nodeB z (growB nodeB (p.take k) (m - halfN n) (n - halfN n) false old).2) := by
        rw [growB, dif_pos h2, hD, hp, Nat.add_sub_cancel]
      rw [e]
      have ihA := ih (halfN n) hsp.2.1 (p.take k) m w old h0
      have ihB := ih (n - halfN n) (by omega) (p.take k) (m - halfN n) false old
      have w0 : IntKind.i64.wrap ((p.length : Int) - 1) = (k : Int) := by rw [wrap64 (by omega)]; omega
      have w1 : IntKind.i64.wrap (k : Int) = (k : Int) := wrap64 (by omega)
      have hn1 : ¬ m = n := by omega
      have q0 : k ≤ p.length := by omega
      by_cases hc : m ≤ halfN n
      · rw [if_pos hc] at hk ⊢
        have ho := ihA hc (by omega) (by rw [hkk, hk]) hpt hl σ
        have hg := growB_len (halfN n) (p.take k) m w old hl hpt
        have hN := rNode_eq .sh .sh (growB nodeB (p.take k) m (halfN n) w old).2 z (by omega) (by omega)
        generalize growB nodeB (p.take k) m (halfN n) w old = C at ho hN
        generalize halfN n = s at hH ho hc
        simp only [hs, List.map_take] at ho
        refine EV_post rfl Tryz.func90 rfl (by simp [Tryz.ntmps90]) (by kernel_rfl) (by kernel_rfl) ?_
        simp (maxSteps := 4000000) [List.getElem?_cons_zero, List.getElem?_cons_succ, -getElem?_pos, hn1, hH, w0, w1, hp, hz, q0, hc, ho, hN, Tryz.results90]
      · rw [if_neg hc] at hk ⊢
        have ho := ihB (by omega) (by omega) (by omega) (by rw [hkk, hk]) hpt hl σ
        have hg := growB_len (n - halfN n) (p.take k) (m - halfN n) false old hl hpt
        have hN := rNode_eq .sh .sh z (growB nodeB (p.take k) (m - halfN n) (n - halfN n) false old).1 (by omega) (by omega)
        have hN2 := rNode_eq .sh .sh z (growB nodeB (p.take k) (m - halfN n) (n - halfN n) false old).2 (by omega) (by omega)
        generalize growB nodeB (p.take k) (m - halfN n) (n - halfN n) false old = C at ho hN hN2
        obtain ⟨s, hsd⟩ : ∃ s, halfN n = s := ⟨_, rfl⟩
        rw [hsd] at hH ho hc hsp
        have w3 : IntKind.i64.wrap ((m : Int) - s) = ((m - s : Nat) : Int) := by rw [wrap64 (by omega)]; omega
        have w4 : IntKind.i64.wrap ((n : Int) - s) = ((n - s : Nat) : Int) := by rw [wrap64 (by omega)]; omega
        simp only [hs, List.map_take] at ho
        refine EV_post rfl Tryz.func90 rfl (by simp [Tryz.ntmps90]) (by kernel_rfl) (by kernel_rfl) ?_
        simp (maxSteps := 4000000) [List.getElem?_cons_zero, List.getElem?_cons_succ, -getElem?_pos, hn1, hH, w0, w1, w3, w4, hp, hz, q0, hc, ho, hN, hN2, Tryz.results90]
    · have hn1 : m = n := by omega
      subst hn1
      rw [subStepsN_end h2] at hp
      cases w with
      | true =>
        have e : growB nodeB p m m true old = (old, old) := by rw [growB, dif_neg h2]; rfl
        rw [e]
        refine EV_post rfl Tryz.func90 rfl (by simp [Tryz.ntmps90]) (by kernel_rfl) (by kernel_rfl) ?_
        simp (maxSteps := 4000000) [List.getElem?_cons_zero, List.getElem?_cons_succ, Tryz.results90]
      | false =>
        obtain ⟨z, hz⟩ : ∃ z, p[0]? = some z := ⟨_, List.getElem?_eq_getElem (by simp at hp; omega)⟩
        have e : growB nodeB p m m false old = (z, z) := by rw [growB, dif_neg h2]; simp [List.getD, hz]
        rw [e]
        refine EV_post rfl Tryz.func90 rfl (by simp [Tryz.ntmps90]) (by kernel_rfl) (by kernel_rfl) ?_
        simp (maxSteps := 4000000) [List.getElem?_cons_zero, List.getElem?_cons_succ, -getElem?_pos, hz, Tryz.results90]
end Go.Proofs.Tryz.Ai
end
section
/- tlog: proofs are checked. -/
namespace Go.Proofs.Tryz.Ai
open Go Go.AI Go.Proofs
set_option maxHeartbeats 4000000
set_option linter.unusedVariables false

/-- what the check of a record answers -/
def recB (p : List (List UInt8)) (i n : Int) (leaf root : List UInt8) : Int :=
  if ¬ (1 ≤ n ∧ n ≤ 1048576 ∧ 0 ≤ i ∧ i < n) then 6 else
  if p.length = stepsN i.toNat n.toNat ∧ p.all is32 = true ∧ is32 leaf = true ∧ is32 root = true then (if climbB nodeB p i.toNat n.toNat leaf == root then 0 else 19) else 19
theorem mayRecord_eq (i n : Int) (σ) : ev 78 [.int .i64 i, .int .i64 n] σ = some (.bool (decide (1 ≤ n ∧ n ≤ 1048576 ∧ 0 ≤ i ∧ i < n)), σ) := by
  refine EV_post rfl Tryz.func78 rfl (by simp [Tryz.ntmps78]) (by kernel_rfl) (by kernel_rfl) ?_
  by_cases h1 : 1 ≤ n
  · by_cases h2 : n ≤ 1048576
    · by_cases h3 : 0 ≤ i
      · simp (maxSteps := 4000000) [List.getElem?_cons_zero, List.getElem?_cons_succ, h1, h2, h3, Tryz.results78]
      · simp (maxSteps := 4000000) [List.getElem?_cons_zero, List.getElem?_cons_succ, h1, h2, h3, Tryz.results78]
    · simp (maxSteps := 4000000) [List.getElem?_cons_zero, List.getElem?_cons_succ, h1, h2, Tryz.results78]
  · simp (maxSteps := 4000000) [List.getElem?_cons_zero, List.getElem?_cons_succ, h1, Tryz.results78]
theorem mayTree_eq (i n : Int) (σ) : ev 83 [.int .i64 i, .int .i64 n] σ = some (.bool (decide (0 ≤ n ∧ n ≤ 1048576 ∧ 0 ≤ i ∧ i ≤ n)), σ) := by
  refine EV_post rfl Tryz.func83 rfl (by simp [Tryz.ntmps83]) (by kernel_rfl) (by kernel_rfl) ?_
  by_cases h1 : 0 ≤ n
  · by_cases h2 : n ≤ 1048576
    · by_cases h3 : 0 ≤ i
      · simp (maxSteps := 4000000) [List.getElem?_cons_zero, List.getElem?_cons_succ, h1, h2, h3, Tryz.results83]
      · simp (maxSteps := 4000000) [List.getElem?_cons_zero, List.getElem?_cons_succ, h1, h2, h3, Tryz.results83]
    · simp (maxSteps := 4000000) [List.getElem?_cons_zero, List.getElem?_cons_succ, h1, h2, Tryz.results83]
  · simp (maxSteps := 4000000) [List.getElem?_cons_zero, List.getElem?_cons_succ, h1, Tryz.results83]
theorem is32_two (a b : List UInt8) : [a, b].all is32 = (is32 a && is32 b) := by simp
theorem CheckRecord_eq (p : List (List UInt8)) (i n : Int) (leaf root : List UInt8) (hp : p.length ≤ 2 ^ 30) (hx : ∀ x ∈ p, x.length ≤ 2 ^ 27) (hl : leaf.length ≤ 2 ^ 27) (hr : root.length ≤ 2 ^ 27) (σ) :
    ev 38 [.sl .sh (hs p), .int .i64 i, .int .i64 n, .sl .sh (leaf.map .u8), .sl .sh (root.map .u8)] σ = some (.int .i64 (recB p i n leaf root), σ) := by
  have hM := mayRecord_eq i n
  refine EV_post rfl Tryz.func38 rfl (by simp [Tryz.ntmps38]) (by kernel_rfl) (by kernel_rfl) ?_
  by_cases hc : 1 ≤ n ∧ n ≤ 1048576 ∧ 0 ≤ i ∧ i < n
  · obtain ⟨a, rfl⟩ := Int.eq_ofNat_of_zero_le (show 0 ≤ i by omega)
    obtain ⟨b, rfl⟩ := Int.eq_ofNat_of_zero_le (show 0 ≤ n by omega)
    have hP := path_eq b a 0 (by omega) (by omega) (by omega)
    have hW := whole_eq (stepsN a b) p [leaf, root] (by omega) (by simp)
    have hlen : (pathN a 0 b).length = stepsN a b := rfl
    have hdec : decide (1 ≤ (b : Int) ∧ (b : Int) ≤ 1048576 ∧ 0 ≤ (a : Int) ∧ (a : Int) < b) = true := decide_eq_true hc
    rw [hdec] at hM
    rw [is32_two] at hW
    simp only [hs, List.map_cons, List.map_nil] at hW
    have hrec : recB p a b leaf root = if p.length = stepsN a b ∧ p.all is32 = true ∧ is32 leaf = true ∧ is32 root = true then (if climbB nodeB p a b leaf == root then 0 else 19) else 19 := by
      unfold recB; rw [if_neg (fun q => q hc)]; rfl
    have hP' : ∀ σ, ev 80 [.int .i64 a, .agg [.int .i64 0, .int .i64 b]] σ = some (.sl (.ex 113 2) ((pathN a 0 b).map spanA), σ) := hP
    by_cases hok : p.length = stepsN a b ∧ p.all is32 = true ∧ is32 leaf = true ∧ is32 root = true
    · obtain ⟨o1, o2, o3, o4⟩ := hok
      obtain ⟨o, hC⟩ := climb_eq b p a leaf (by omega) (by omega) (by omega) o1 hx hl σ
      have hE := fun o o' => Equal_eq o o' (climbB nodeB p a b leaf) root
      rw [if_pos ⟨o1, o2, o3, o4⟩] at hrec
      have hWb : (decide (p.length = stepsN a b) && (p.all is32 && (is32 leaf && is32 root))) = true := by rw [o2, o3, o4]; simp [o1]
      rw [hWb] at hW
      generalize climbB nodeB p a b leaf = C at hC hE hrec
      by_cases hcr : (C == root) = true
      · rw [hcr] at hE hrec
        simp only [if_true] at hrec
        simp (maxSteps := 4000000) [List.getElem?_cons_zero, List.getElem?_cons_succ, hM, hP', hlen, hW, hC, hE, hrec, Tryz.results38]
      · have hcr : (C == root) = false := by simpa using hcr
        rw [hcr] at hE hrec
        simp only [Bool.false_eq_true, if_false] at hrec
        simp (maxSteps := 4000000) [List.getElem?_cons_zero, List.getElem?_cons_succ, hM, hP', hlen, hW, hC, hE, hrec, Tryz.results38]
    · rw [if_neg hok] at hrec
      have hWb : (decide (p.length = stepsN a b) && (p.all is32 && (is32 leaf && is32 root))) = false := by
        rw [Bool.eq_false_iff]; intro e
        simp only [Bool.and_eq_true, decide_eq_true_eq] at e
        exact hok ⟨e.1, e.2.1, e.2.2.1, e.2.2.2⟩
      rw [hWb] at hW
      simp (maxSteps := 4000000) [List.getElem?_cons_zero, List.getElem?_cons_succ, hM, hP', hlen, hW, hrec, Tryz.results38]
  · have hrec : recB p i n leaf root = 6 := by unfold recB; rw [if_pos hc]
    have hdec : decide (1 ≤ n ∧ n ≤ 1048576 ∧ 0 ≤ i ∧ i < n) = false := decide_eq_false hc
    rw [hdec] at hM
    simp (maxSteps := 4000000) [List.getElem?_cons_zero, List.getElem?_cons_succ, hM, hrec, Tryz.results38]
theorem rCheckRecord_eq (p : List (List UInt8)) (i n : Int) (leaf root : List UInt8) (hp : p.length ≤ 2 ^ 30) (hx : ∀ x ∈ p, x.length ≤ 2 ^ 27) (hl : leaf.length ≤ 2 ^ 27) (hr : root.length ≤ 2 ^ 27) (σ) :
    ev 41 [.sl .sh (hs p), .int .i64 i, .int .i64 n, .sl .sh (leaf.map .u8), .sl .sh (root.map .u8)] σ = some (.int .i64 (recB p i n leaf root), σ) := by
  refine EV_post rfl Tryz.func41 rfl (by simp [Tryz.ntmps41]) (by kernel_rfl) (by kernel_rfl) ?_
  by_cases hc : 1 ≤ n ∧ n ≤ 1048576 ∧ 0 ≤ i ∧ i < n
  · obtain ⟨a, rfl⟩ := Int.eq_ofNat_of_zero_le (show 0 ≤ i by omega)
    obtain ⟨b, rfl⟩ := Int.eq_ofNat_of_zero_le (show 0 ≤ n by omega)
    have hS := steps_eq a b (by omega) (by omega) (by omega)
    have hG := good_eq p (by omega)
    have c1 : ¬ b < 1 := by omega
    have c2 : ¬ 1048576 < b := by omega
    have c3 : ¬ b ≤ a := by omega
    have c4 : ¬ b = 0 := by omega
    have hrec : recB p a b leaf root = if p.length = stepsN a b ∧ p.all is32 = true ∧ is32 leaf = true ∧ is32 root = true then (if climbB nodeB p a b leaf == root then 0 else 19) else 19 := by
      unfold recB; rw [if_neg (fun q => q hc)]; rfl
    by_cases o1 : p.length = stepsN a b
    · obtain ⟨st, hst⟩ : ∃ st, stepsN a b = st := ⟨_, rfl⟩
      by_cases o2 : p.all is32 = true
      · by_cases o3 : leaf.length = 32
        · by_cases o4 : root.length = 32
          · obtain ⟨o, hC⟩ := rclimb_eq b p a leaf (by omega) (by omega) (by omega) o1 hx hl σ
            have hE := fun o o' => SameBytes_eq o o' (climbB nodeB p a b leaf) root (by have := climbB_len b p a leaf hl; omega)
            rw [if_pos ⟨o1, o2, by simp [is32, o3], by simp [is32, o4]⟩] at hrec
            generalize climbB nodeB p a b leaf = C at hC hE hrec
            rw [o2] at hG
            rw [hst] at hS o1
            by_cases hcr : (C == root) = true
            · rw [hcr] at hE hrec
              simp only [if_true] at hrec
              simp (maxSteps := 4000000) [List.getElem?_cons_zero, List.getElem?_cons_succ, c1, c2, c3, c4, hS, o1, hG, o3, o4, hC, hE, hrec, Tryz.results41]
            · have hcr : (C == root) = false := by simpa using hcr
              rw [hcr] at hE hrec
              simp only [Bool.false_eq_true, if_false] at hrec
              simp (maxSteps := 4000000) [List.getElem?_cons_zero, List.getElem?_cons_succ, c1, c2, c3, c4, hS, o1, hG, o3, o4, hC, hE, hrec, Tryz.results41]
          · rw [if_neg (by simp [is32, o4])] at hrec
            rw [o2] at hG
            rw [hst] at hS o1
            simp (maxSteps := 4000000) [List.getElem?_cons_zero, List.getElem?_cons_succ, c1, c2, c3, c4, hS, o1, hG, o3, o4, hrec, Tryz.results41]
        · rw [if_neg (by simp [is32, o3])] at hrec
          rw [o2] at hG
          rw [hst] at hS o1
          simp (maxSteps := 4000000) [List.getElem?_cons_zero, List.getElem?_cons_succ, c1, c2, c3, c4, hS, o1, hG, o3, hrec, Tryz.results41]
      · have o2 : p.all is32 = false := by simpa using o2
        rw [if_neg (by simp only [o2]; simp)] at hrec
        rw [o2] at hG
        rw [hst] at hS o1
        simp (maxSteps := 4000000) [List.getElem?_cons_zero, List.getElem?_cons_succ, c1, c2, c3, c4, hS, o1, hG, hrec, Tryz.results41]
    · rw [if_neg (fun e => o1 e.1)] at hrec
      simp (maxSteps := 4000000) [List.getElem?_cons_zero, List.getElem?_cons_succ, c1, c2, c3, c4, hS, o1, hrec, Tryz.results41]
  · have hrec : recB p i n leaf root = 6 := by unfold recB; rw [if_pos hc]
    by_cases c1 : n < 1
    · simp (maxSteps := 4000000) [List.getElem?_cons_zero, List.getElem?_cons_succ, c1, hrec, Tryz.results41]
    · by_cases c2 : 1048576 < n
      · simp (maxSteps := 4000000) [List.getElem?_cons_zero, List.getElem?_cons_succ, c1, c2, hrec, Tryz.results41]
      · by_cases c3 : i < 0
        · simp (maxSteps := 4000000) [List.getElem?_cons_zero, List.getElem?_cons_succ, c1, c2, c3, hrec, Tryz.results41]
        · have c4 : n ≤ i := by omega
          simp (maxSteps := 4000000) [List.getElem?_cons_zero, List.getElem?_cons_succ, c1, c2, c3, c4, hrec, Tryz.results41]
end Go.Proofs.Tryz.Ai
end
section
/- tlog: proofs of longer logs are checked; TlogChecks. -/
namespace Go.Proofs.Tryz.Ai
open Go Go.AI Go.Proofs
set_option maxHeartbeats 4000000
set_option linter.unusedVariables false

/-- what the check of a longer log answers -/
def treeB (p : List (List UInt8)) (m n : Int) (old root : List UInt8) : Int :=
  if ¬ (0 ≤ n ∧ n ≤ 1048576 ∧ 0 ≤ m ∧ m ≤ n) then 6 else
  if m = 0 then (if p.length = 0 then 0 else 19) else
  if m = n then (if p.length = 0 ∧ (old == root) = true then 0 else 19) else
  if p.length = subStepsN m.toNat n.toNat true ∧ p.all is32 = true ∧ is32 old = true ∧ is32 root = true then
    (if ((growB nodeB p m.toNat n.toNat true old).1 == old) = true ∧ ((growB nodeB p m.toNat n.toNat true old).2 == root) = true then 0 else 19) else 19
theorem CheckTree_eq (p : List (List UInt8)) (m n : Int) (old root : List UInt8) (hp : p.length ≤ 2 ^ 30) (hx : ∀ x ∈ p, x.length ≤ 2 ^ 27) (hl : old.length ≤ 2 ^ 27) (hr : root.length ≤ 2 ^ 27) (σ) :
    ev 39 [.sl .sh (hs p), .int .i64 m, .int .i64 n, .sl .sh (old.map .u8), .sl .sh (root.map .u8)] σ = some (.int .i64 (treeB p m n old root), σ) := by
  have hM := mayTree_eq m n
  refine EV_post rfl Tryz.func39 rfl (by simp [Tryz.ntmps39]) (by kernel_rfl) (by kernel_rfl) ?_
  by_cases hc : 0 ≤ n ∧ n ≤ 1048576 ∧ 0 ≤ m ∧ m ≤ n
  · obtain ⟨a, rfl⟩ := Int.eq_ofNat_of_zero_le (show 0 ≤ m by omega)
    obtain ⟨b, rfl⟩ := Int.eq_ofNat_of_zero_le (show 0 ≤ n by omega)
    have hdec : decide (0 ≤ (b : Int) ∧ (b : Int) ≤ 1048576 ∧ 0 ≤ (a : Int) ∧ (a : Int) ≤ b) = true := decide_eq_true hc
    rw [hdec] at hM
    by_cases m0 : a = 0
    · subst m0
      by_cases l0 : p.length = 0
      · have hrec : treeB p (0 : Nat) b old root = 0 := by unfold treeB; rw [if_neg (fun q => q hc), if_pos (by simp), if_pos l0]
        have hrec' : treeB p 0 b old root = 0 := hrec
        have hM' : ∀ σ, ev 83 [.int .i64 0, .int .i64 b] σ = some (.bool true, σ) := hM
        simp (maxSteps := 4000000) [List.getElem?_cons_zero, List.getElem?_cons_succ, hM', l0, hrec', Tryz.results39]
      · have hrec : treeB p (0 : Nat) b old root = 19 := by unfold treeB; rw [if_neg (fun q => q hc), if_pos (by simp), if_neg l0]
        have hrec' : treeB p 0 b old root = 19 := hrec
        have hM' : ∀ σ, ev 83 [.int .i64 0, .int .i64 b] σ = some (.bool true, σ) := hM
        simp (maxSteps := 4000000) [List.getElem?_cons_zero, List.getElem?_cons_succ, hM', l0, hrec', Tryz.results39]
    · have m0' : ¬ (a : Int) = 0 := by omega
      by_cases mn : a = b
      · subst mn
        have hE := fun o o' => Equal_eq o o' old root
        by_cases l0 : p.length = 0
        · by_cases hor : (old == root) = true
          · have hrec : treeB p a a old root = 0 := by unfold treeB; rw [if_neg (fun q => q hc), if_neg m0', if_pos rfl, if_pos ⟨l0, hor⟩]
            rw [hor] at hE
            simp (maxSteps := 4000000) [List.getElem?_cons_zero, List.getElem?_cons_succ, hM, m0, l0, hE, hrec, Tryz.results39]
          · have hrec : treeB p a a old root = 19 := by unfold treeB; rw [if_neg (fun q => q hc), if_neg m0', if_pos rfl, if_neg (fun q => hor q.2)]
            have hor : (old == root) = false := by simpa using hor
            rw [hor] at hE
            simp (maxSteps := 4000000) [List.getElem?_cons_zero, List.getElem?_cons_succ, hM, m0, l0, hE, hrec, Tryz.results39]
        · have hrec : treeB p a a old root = 19 := by unfold treeB; rw [if_neg (fun q => q hc), if_neg m0', if_pos rfl, if_neg (fun q => l0 q.1)]
          simp (maxSteps := 4000000) [List.getElem?_cons_zero, List.getElem?_cons_succ, hM, m0, l0, hrec, Tryz.results39]
      · have mn' : ¬ (a : Int) = b := by omega
        have hS := subproof_eq b a 0 true (by omega) (by omega) (by omega)
        have hS' : ∀ σ, ev 84 [.int .i64 a, .agg [.int .i64 0, .int .i64 b], .bool true] σ = some (.sl (.ex 113 2) ((subN a 0 b true).map spanA), σ) := hS
        have hlen : (subN a 0 b true).length = subStepsN a b true := rfl
        have hW := whole_eq (subStepsN a b true) p [old, root] (by omega) (by simp)
        rw [is32_two] at hW
        simp only [hs, List.map_cons, List.map_nil] at hW
        have hrec : treeB p a b old root = if p.length = subStepsN a b true ∧ p.all is32 = true ∧ is32 old = true ∧ is32 root = true then
            (if ((growB nodeB p a b true old).1 == old) = true ∧ ((growB nodeB p a b true old).2 == root) = true then 0 else 19) else 19 := by
          unfold treeB; rw [if_neg (fun q => q hc), if_neg m0', if_neg mn']; rfl
        by_cases hok : p.length = subStepsN a b true ∧ p.all is32 = true ∧ is32 old = true ∧ is32 root = true
        · obtain ⟨o1, o2, o3, o4⟩ := hok
          have hG := grow_eq b p a true old (by omega) (by omega) (by omega) o1 hx hl
          have hE1 := fun o o' => Equal_eq o o' (growB nodeB p a b true old).1 old
          have hE2 := fun o o' => Equal_eq o o' (growB nodeB p a b true old).2 root
          rw [if_pos ⟨o1, o2, o3, o4⟩] at hrec
          have hWb : (decide (p.length = subStepsN a b true) && (p.all is32 && (is32 old && is32 root))) = true := by rw [o2, o3, o4]; simp [o1]
          rw [hWb] at hW
          generalize growB nodeB p a b true old = C at hG hE1 hE2 hrec
          by_cases c1 : (C.1 == old) = true
          · by_cases c2 : (C.2 == root) = true
            · rw [if_pos ⟨c1, c2⟩] at hrec
              rw [c1] at hE1
              rw [c2] at hE2
              simp (maxSteps := 4000000) [List.getElem?_cons_zero, List.getElem?_cons_succ, hM, m0, mn, hS', hlen, hW, hG, hE1, hE2, hrec, Tryz.results39]
            · rw [if_neg (fun q => c2 q.2)] at hrec
              have c2 : (C.2 == root) = false := by simpa using c2
              rw [c1] at hE1
              rw [c2] at hE2
              simp (maxSteps := 4000000) [List.getElem?_cons_zero, List.getElem?_cons_succ, hM, m0, mn, hS', hlen, hW, hG, hE1, hE2, hrec, Tryz.results39]
          · rw [if_neg (fun q => c1 q.1)] at hrec
            have c1 : (C.1 == old) = false := by simpa using c1
            rw [c1] at hE1
            simp (maxSteps := 4000000) [List.getElem?_cons_zero, List.getElem?_cons_succ, hM, m0, mn, hS', hlen, hW, hG, hE1, hrec, Tryz.results39]
        · rw [if_neg hok] at hrec
          have hWb : (decide (p.length = subStepsN a b true) && (p.all is32 && (is32 old && is32 root))) = false := by
            rw [Bool.eq_false_iff]; intro e
            simp only [Bool.and_eq_true, decide_eq_true_eq] at e
            exact hok ⟨e.1, e.2.1, e.2.2.1, e.2.2.2⟩
          rw [hWb] at hW
          simp (maxSteps := 4000000) [List.getElem?_cons_zero, List.getElem?_cons_succ, hM, m0, mn, hS', hlen, hW, hrec, Tryz.results39]
  · have hrec : treeB p m n old root = 6 := by unfold treeB; rw [if_pos hc]
    have hdec : decide (0 ≤ n ∧ n ≤ 1048576 ∧ 0 ≤ m ∧ m ≤ n) = false := decide_eq_false hc
    rw [hdec] at hM
    simp (maxSteps := 4000000) [List.getElem?_cons_zero, List.getElem?_cons_succ, hM, hrec, Tryz.results39]
theorem rCheckTree_eq (p : List (List UInt8)) (m n : Int) (old root : List UInt8) (hp : p.length ≤ 2 ^ 30) (hx : ∀ x ∈ p, x.length ≤ 2 ^ 27) (hl : old.length ≤ 2 ^ 27) (hr : root.length ≤ 2 ^ 27) (σ) :
    ev 43 [.sl .sh (hs p), .int .i64 m, .int .i64 n, .sl .sh (old.map .u8), .sl .sh (root.map .u8)] σ = some (.int .i64 (treeB p m n old root), σ) := by
  have hB := fun o o' => SameBytes_eq o o' old root (by omega)
  refine EV_post rfl Tryz.func43 rfl (by simp [Tryz.ntmps43]) (by kernel_rfl) (by kernel_rfl) ?_
  by_cases hc : 0 ≤ n ∧ n ≤ 1048576 ∧ 0 ≤ m ∧ m ≤ n
  · obtain ⟨a, rfl⟩ := Int.eq_ofNat_of_zero_le (show 0 ≤ m by omega)
    obtain ⟨b, rfl⟩ := Int.eq_ofNat_of_zero_le (show 0 ≤ n by omega)
    have c2 : ¬ 1048576 < b := by omega
    have c3 : ¬ b < a := by omega
    by_cases m0 : a = 0
    · subst m0
      by_cases l0 : p.length = 0
      · have hrec : treeB p (0 : Nat) b old root = 0 := by unfold treeB; rw [if_neg (fun q => q hc), if_pos (by simp), if_pos l0]
        have hrec' : treeB p 0 b old root = 0 := hrec
        simp (maxSteps := 4000000) [List.getElem?_cons_zero, List.getElem?_cons_succ, c2, c3, l0, hB, hrec', Tryz.results43]
      · have hrec : treeB p (0 : Nat) b old root = 19 := by unfold treeB; rw [if_neg (fun q => q hc), if_pos (by simp), if_neg l0]
        have hrec' : treeB p 0 b old root = 19 := hrec
        simp (maxSteps := 4000000) [List.getElem?_cons_zero, List.getElem?_cons_succ, c2, c3, l0, hB, hrec', Tryz.results43]
    · have m0' : ¬ (a : Int) = 0 := by omega
      by_cases mn : a = b
      · subst mn
        by_cases l0 : p.length = 0
        · by_cases hor : (old == root) = true
          · have hrec : treeB p a a old root = 0 := by unfold treeB; rw [if_neg (fun q => q hc), if_neg m0', if_pos rfl, if_pos ⟨l0, hor⟩]
            rw [hor] at hB
            simp (maxSteps := 4000000) [List.getElem?_cons_zero, List.getElem?_cons_succ, c2, c3, m0, l0, hB, hrec, Tryz.results43]
          · have hrec : treeB p a a old root = 19 := by unfold treeB; rw [if_neg (fun q => q hc), if_neg m0', if_pos rfl, if_neg (fun q => hor q.2)]
            have hor : (old == root) = false := by simpa using hor
            rw [hor] at hB
            simp (maxSteps := 4000000) [List.getElem?_cons_zero, List.getElem?_cons_succ, c2, c3, m0, l0, hB, hrec, Tryz.results43]
        · have hrec : treeB p a a old root = 19 := by unfold treeB; rw [if_neg (fun q => q hc), if_neg m0', if_pos rfl, if_neg (fun q => l0 q.1)]
          simp (maxSteps := 4000000) [List.getElem?_cons_zero, List.getElem?_cons_succ, c2, c3, m0, l0, hB, hrec, Tryz.results43]
      · have mn' : ¬ (a : Int) = b := by omega
        have hS := subSteps_eq a b true (by omega) (by omega) (by omega)
        have hGd := good_eq p (by omega)
        have hrec : treeB p a b old root = if p.length = subStepsN a b true ∧ p.all is32 = true ∧ is32 old = true ∧ is32 root = true then
            (if ((growB nodeB p a b true old).1 == old) = true ∧ ((growB nodeB p a b true old).2 == root) = true then 0 else 19) else 19 := by
          unfold treeB; rw [if_neg (fun q => q hc), if_neg m0', if_neg mn']; rfl
        obtain ⟨st, hst⟩ : ∃ st, subStepsN a b true = st := ⟨_, rfl⟩
        by_cases o1 : p.length = subStepsN a b true
        · by_cases o2 : p.all is32 = true
          · by_cases o3 : old.length = 32
            · by_cases o4 : root.length = 32
              · have hG := two_eq b p a true old (by omega) (by omega) (by omega) o1 hx hl
                have hgl := growB_len b p a true old hl hx
                have hE1 := fun o o' => SameBytes_eq o o' (growB nodeB p a b true old).1 old (by omega)
                have hE2 := fun o o' => SameBytes_eq o o' (growB nodeB p a b true old).2 root (by omega)
                rw [if_pos ⟨o1, o2, by simp [is32, o3], by simp [is32, o4]⟩] at hrec
                generalize growB nodeB p a b true old = C at hG hE1 hE2 hrec
                rw [o2] at hGd
                rw [hst] at hS o1
                by_cases c1 : (C.1 == old) = true
                · by_cases c4 : (C.2 == root) = true
                  · rw [if_pos ⟨c1, c4⟩] at hrec
                    rw [c1] at hE1
                    rw [c4] at hE2
                    simp (maxSteps := 4000000) [List.getElem?_cons_zero, List.getElem?_cons_succ, c2, c3, m0, mn, hS, o1, hGd, o3, o4, hG, hE1, hE2, hrec, Tryz.results43]
                  · rw [if_neg (fun q => c4 q.2)] at hrec
                    have c4 : (C.2 == root) = false := by simpa using c4
                    rw [c1] at hE1
                    rw [c4] at hE2
                    simp (maxSteps := 4000000) [List.getElem?_cons_zero, List.getElem?_cons_succ, c2, c3, m0, mn, hS, o1, hGd, o3, o4, hG, hE1, hE2, hrec, Tryz.results43]
                · rw [if_neg (fun q => c1 q.1)] at hrec
                  have c1 : (C.1 == old) = false := by simpa using c1
                  rw [c1] at hE1
                  simp (maxSteps := 4000000) [List.getElem?_cons_zero, List.getElem?_cons_succ, c2, c3, m0, mn, hS, o1, hGd, o3, o4, hG, hE1, hE2, hrec, Tryz.results43]
              · rw [if_neg (by simp [is32, o4])] at hrec
                rw [o2] at hGd
                rw [hst] at hS o1
                simp (maxSteps := 4000000) [List.getElem?_cons_zero, List.getElem?_cons_succ, c2, c3, m0, mn, hS, o1, hGd, o3, o4, hrec, Tryz.results43]
            · rw [if_neg (by simp [is32, o3])] at hrec
              rw [o2] at hGd
              rw [hst] at hS o1
              simp (maxSteps := 4000000) [List.getElem?_cons_zero, List.getElem?_cons_succ, c2, c3, m0, mn, hS, o1, hGd, o3, hrec, Tryz.results43]
          · have o2 : p.all is32 = false := by simpa using o2
            rw [if_neg (by simp only [o2]; simp)] at hrec
            rw [o2] at hGd
            rw [hst] at hS o1
            simp (maxSteps := 4000000) [List.getElem?_cons_zero, List.getElem?_cons_succ, c2, c3, m0, mn, hS, o1, hGd, hrec, Tryz.results43]
        · rw [if_neg (fun e => o1 e.1)] at hrec
          simp (maxSteps := 4000000) [List.getElem?_cons_zero, List.getElem?_cons_succ, c2, c3, m0, mn, hS, o1, hrec, Tryz.results43]
  · have hrec : treeB p m n old root = 6 := by unfold treeB; rw [if_pos hc]
    by_cases c1 : n < 0
    · simp (maxSteps := 4000000) [List.getElem?_cons_zero, List.getElem?_cons_succ, c1, hrec, Tryz.results43]
    · by_cases c2 : 1048576 < n
      · simp (maxSteps := 4000000) [List.getElem?_cons_zero, List.getElem?_cons_succ, c1, c2, hrec, Tryz.results43]
      · by_cases c3 : m < 0
        · simp (maxSteps := 4000000) [List.getElem?_cons_zero, List.getElem?_cons_succ, c1, c2, c3, hrec, Tryz.results43]
        · have c4 : n < m := by omega
          simp (maxSteps := 4000000) [List.getElem?_cons_zero, List.getElem?_cons_succ, c1, c2, c3, c4, hrec, Tryz.results43]
end Go.Proofs.Tryz.Ai
end
section
/- What is lent: copies with one byte more behind them. -/
namespace Go.Proofs.Tryz.Ai
open Go Go.AI Go.Proofs
set_option maxHeartbeats 1000000
set_option linter.unusedVariables false

theorem BytesM_eq (o : Own) (x : UInt8) (l : List UInt8) (hl : l.length ≤ 2 ^ 39) (σ) : ev (100000 + 72) [.sl o ((x :: l).map .u8)] σ = some (.ms 5 1 σ.length 0 (l.length + 1), σ ++ [(x :: l).map .u8]) := by
  refine EV_post rfl Tryz.func72 rfl (by simp [Tryz.ntmps72]) (by kernel_rfl) (by kernel_rfl) ?_
  simp (maxSteps := 4000000) [List.getElem?_cons_zero, List.getElem?_cons_succ, Tryz.results72]
  repeat (rw [need_of]; rotate_left; (· (try unfold most); omega); simp (maxSteps := 4000000) [List.getElem?_cons_zero, List.getElem?_cons_succ, Tryz.results72])
theorem BytesM_nil (o : Own) (σ) : ev (100000 + 72) [.sl o []] σ = some (.sl (.ex 5 1) [], σ) := by
  refine EV_post rfl Tryz.func72 rfl (by simp [Tryz.ntmps72]) (by kernel_rfl) (by kernel_rfl) ?_
  simp (maxSteps := 4000000) [List.getElem?_cons_zero, List.getElem?_cons_succ, Tryz.results72]
  repeat (rw [need_of]; rotate_left; (· (try unfold most); omega); simp (maxSteps := 4000000) [List.getElem?_cons_zero, List.getElem?_cons_succ, Tryz.results72])
theorem Lent_eq (l : List UInt8) (hl : l.length ≤ 2 ^ 38) (σ : List (List AV)) : ∃ b j, ev 31 [.sl .sh (l.map .u8)] σ = some (.ms 5 1 b 0 l.length, σ ++ j) ∧ (σ ++ j)[b]? = some ((l ++ [201]).map .u8) ∧ σ.length ≤ b := by
  cases l with
  | nil =>
    have h := BytesM_nil .sh
    refine ⟨σ.length, [[.u8 201]], ?_, by simp, Nat.le_refl _⟩
    refine EV_post rfl Tryz.func31 rfl (by simp [Tryz.ntmps31]) (by kernel_rfl) (by kernel_rfl) ?_
    simp (maxSteps := 4000000) [List.getElem?_cons_zero, List.getElem?_cons_succ, h, Tryz.results31]
    repeat (rw [need_of]; rotate_left; (· (try unfold most); omega); simp (maxSteps := 4000000) [List.getElem?_cons_zero, List.getElem?_cons_succ, h, Tryz.results31])
  | cons x l =>
    have h := BytesM_eq .sh x l (by simp at hl; omega)
    refine ⟨σ.length + 1, [[], (x :: (l ++ [201])).map .u8], ?_, by simp, by omega⟩
    simp at h hl
    refine EV_post rfl Tryz.func31 rfl (by simp [Tryz.ntmps31]) (by kernel_rfl) (by kernel_rfl) ?_
    simp (maxSteps := 4000000) [List.getElem?_cons_zero, List.getElem?_cons_succ, h, Tryz.results31]
    repeat (rw [need_of]; rotate_left; (· (try unfold most); omega); simp (maxSteps := 4000000) [List.getElem?_cons_zero, List.getElem?_cons_succ, h, Tryz.results31])
theorem SameBytesM_eq (b : Nat) (k : Nat) (c : List UInt8) (l : List UInt8) (hl : l.length ≤ 2 ^ 39) (σ : List (List AV)) (hb : σ[b]? = some (c.map .u8)) (hk : k ≤ c.length) :
    ev 17 [.ms 5 1 b 0 k, .sl .sh (l.map .u8)] σ = some (.bool (c.take k == l), σ) := by
  refine EV_post rfl Tryz.func17 rfl (by simp [Tryz.ntmps17]) (by kernel_rfl) (by kernel_rfl) ?_
  by_cases hkl : k = l.length
  · subst hkl
    simp (maxSteps := 4000000) [List.getElem?_cons_zero, List.getElem?_cons_succ, ]
    refine Post_loop (I := fun i : Nat => ⟨[(0, .ms 5 1 b 0 l.length), (1, .sl .sh (l.map .u8)), (5, .int .i64 i)], [], σ⟩) (Pr := fun i => i ≤ l.length ∧ c.take i = l.take i) (μ := fun i => l.length - i) (a := 0) (by simp) (by simp) ?_
    rintro i ⟨hi, hn⟩
    by_cases hc : i < l.length
    · obtain ⟨x, hx⟩ : ∃ x, l[i]? = some x := ⟨_, List.getElem?_eq_getElem hc⟩
      obtain ⟨y, hy⟩ : ∃ x, c[i]? = some x := ⟨_, List.getElem?_eq_getElem (by omega)⟩
      have w1 : IntKind.i64.wrap ((i : Int) + 1) = (i : Int) + 1 := wrap64 (by omega)
      by_cases hxy : y = x
      · subst hxy
        simp (maxSteps := 4000000) [List.getElem?_cons_zero, List.getElem?_cons_succ, -getElem?_pos, hc, hb, hx, hy, w1]
        exact ⟨i + 1, ⟨by omega, by rw [List.take_add_one, List.take_add_one, hx, hy, hn]⟩, by omega, by simp⟩
      · have hne : ¬ List.take l.length c = l := by
          intro e
          rw [← e, List.getElem?_take, if_pos hc, hy] at hx
          exact hxy (by simpa using hx)
        simp (maxSteps := 4000000) [List.getElem?_cons_zero, List.getElem?_cons_succ, -getElem?_pos, hc, hb, hx, hy, hxy, hne, Tryz.results17]
    · have he : List.take l.length c = l := by
        have : i = l.length := by omega
        subst this
        rw [hn]; simp
      simp (maxSteps := 4000000) [List.getElem?_cons_zero, List.getElem?_cons_succ, hc, he, Tryz.results17]
  · have hne : (c.take k == l) = false := by
      rw [beq_eq_false_iff_ne]; intro e
      rw [← e] at hkl; simp at hkl; omega
    simp (maxSteps := 4000000) [List.getElem?_cons_zero, List.getElem?_cons_succ, hkl, hne, Tryz.results17]
theorem Kept_eq (b : Nat) (l : List UInt8) (n : Nat) (hn : l.length = n) (hl : n ≤ 2 ^ 38) (σ : List (List AV)) (hb : σ[b]? = some ((l ++ [201]).map .u8)) : ev 33 [.ms 5 1 b 0 n, .sl .sh (l.map .u8)] σ = some (.bool true, σ) := by
  have h := SameBytesM_eq b n (l ++ [201]) l (by omega) σ hb (by simp; omega)
  have e : ((l ++ [201]).take n == l) = true := by subst hn; simp
  rw [e] at h
  have w1 : IntKind.i64.wrap ((n : Int) + 1) = ((n + 1 : Nat) : Int) := by rw [wrap64 (by omega)]; omega
  have hlen : n + 1 ≤ ((l ++ [201]).map AV.u8).length := by simp; omega
  have hlast : ((l ++ [201]).map AV.u8)[n]? = some (.u8 201) := by subst hn; simp
  obtain ⟨C, hC⟩ : ∃ C, (l ++ [201]).map AV.u8 = C := ⟨_, rfl⟩
  rw [hC] at hb hlen hlast
  obtain ⟨m, hm⟩ : ∃ m, n + 1 = m := ⟨_, rfl⟩
  have q1 : n < m := by omega
  rw [hm] at w1 hlen
  refine EV_post rfl Tryz.func33 rfl (by simp [Tryz.ntmps33]) (by kernel_rfl) (by kernel_rfl) ?_
  simp (maxSteps := 4000000) [List.getElem?_cons_zero, List.getElem?_cons_succ, -getElem?_pos, h, w1, hb, hlen, hlast, hn, q1, Tryz.results33]
end Go.Proofs.Tryz.Ai
end
section
/- A log in memory: its rows of hashes. -/
namespace Go.Proofs.Tryz.Ai
open Go Go.AI Go.Proofs
set_option maxHeartbeats 1000000
set_option linter.unusedVariables false

def rowO (r : List (List UInt8)) : Own := if r = [] then .nil else .ex 35 1
def rowA (r : List (List UInt8)) : AV := .sl (rowO r) (hs r)
/-- a log stands in boxes p and q -/
structure LogAt (s : List (List AV)) (p q : Nat) (rows : List (List (List UInt8))) : Prop where
  log : s[p]? = some [.ms 22 1 q 0 rows.length]
  row : s[q]? = some (rows.map rowA)
  ne : p ≠ q
  pos : rows ≠ []
def logP (p : Nat) : AV := .gp p 0 (some (80, 1))
theorem LogAt.plt {s : List (List AV)} {p q : Nat} {rows : List (List (List UInt8))} (h : LogAt s p q rows) : p < s.length := (List.getElem?_eq_some_iff.1 h.log).1
theorem LogAt.qlt {s : List (List AV)} {p q : Nat} {rows : List (List (List UInt8))} (h : LogAt s p q rows) : q < s.length := (List.getElem?_eq_some_iff.1 h.row).1
theorem LogAt.app {s j : List (List AV)} {p q : Nat} {rows : List (List (List UInt8))} (h : LogAt s p q rows) : LogAt (s ++ j) p q rows :=
  ⟨by rw [List.getElem?_append_left h.plt]; exact h.log, by rw [List.getElem?_append_left h.qlt]; exact h.row, h.ne, h.pos⟩
theorem LogAt.keep {s s' : List (List AV)} {p q : Nat} {rows : List (List (List UInt8))} (h : LogAt s p q rows) (hp : s'[p]? = s[p]?) (hq : s'[q]? = s[q]?) : LogAt s' p q rows :=
  ⟨by rw [hp]; exact h.log, by rw [hq]; exact h.row, h.ne, h.pos⟩
theorem New_eq (σ : List (List AV)) : ∃ s p q, ev 30 [] σ = some (logP p, σ ++ s) ∧ LogAt (σ ++ s) p q [[]] ∧ σ.length ≤ p ∧ σ.length ≤ q := by
  refine ⟨[[.sl .nil []], [.ms 22 1 σ.length 0 1]], σ.length + 1, σ.length, ?_, ⟨by simp, by simp [rowA, rowO, hs], by omega, by simp⟩, by omega, by omega⟩
  refine EV_post rfl Tryz.func30 rfl (by simp [Tryz.ntmps30]) (by kernel_rfl) (by kernel_rfl) ?_
  simp (maxSteps := 4000000) [List.getElem?_cons_zero, List.getElem?_cons_succ, Tryz.results30]
  rfl
theorem Size_eq (s : List (List AV)) (p q : Nat) (rows : List (List (List UInt8))) (r : List (List UInt8)) (h : LogAt s p q rows) (hr : rows[0]? = some r) : ev 48 [logP p] s = some (.int .i64 r.length, s) := by
  have h1 := h.log
  have h2 := h.row
  have h3 : (rows.map rowA)[0]? = some (rowA r) := by rw [List.getElem?_map, hr]; rfl
  have h4 : 0 < rows.length := (List.getElem?_eq_some_iff.1 hr).1
  generalize rows.map rowA = R at *
  refine EV_post rfl Tryz.func48 rfl (by simp [Tryz.ntmps48]) (by kernel_rfl) (by kernel_rfl) ?_
  simp (maxSteps := 4000000) [List.getElem?_cons_zero, List.getElem?_cons_succ, -getElem?_pos, logP, h1, h2, h3, h4, rowA, Tryz.results48]
theorem LeafM_eq (b : Nat) (l : List UInt8) (n : Nat) (hn : l.length = n) (hl : n + 1 ≤ 2 ^ 30) (s : List (List AV)) (hb : s[b]? = some ((l ++ [201]).map .u8)) : ev 27 [.ms 5 1 b 0 n] s = some (.sl (.ex 5 1) ((sha256 (0 :: l)).map .u8), s) := by
  have h := SHA256_eq .sh (0 :: l) (by simp; omega)
  have hlen : n ≤ ((l ++ [201]).map AV.u8).length := by simp; omega
  have ht : List.take n ((l ++ [201]).map AV.u8) = l.map .u8 := by subst hn; simp
  obtain ⟨C, hC⟩ : ∃ C, (l ++ [201]).map AV.u8 = C := ⟨_, rfl⟩
  rw [hC] at hb hlen ht
  have h' : ∀ σ, ev 70 [.sl .sh (.int .u8 0 :: l.map .u8)] σ = some (.sl (.ex 5 1) ((sha256 (0 :: l)).map .u8), σ) := fun σ => h σ
  refine EV_post rfl Tryz.func27 rfl (by simp [Tryz.ntmps27]) (by kernel_rfl) (by kernel_rfl) ?_
  simp (maxSteps := 4000000) [List.getElem?_cons_zero, List.getElem?_cons_succ, h', hb, hlen, ht, hn, Tryz.results27]
  repeat (rw [need_of]; rotate_left; (· (try unfold most); omega); simp (maxSteps := 4000000) [List.getElem?_cons_zero, List.getElem?_cons_succ, h', hb, hlen, ht, hn, Tryz.results27])
end Go.Proofs.Tryz.Ai
end
section
/- A record is laid at a log's end. -/
namespace Go.Proofs.Tryz.Ai
open Go Go.AI Go.Proofs
set_option maxHeartbeats 1000000
set_option linter.unusedVariables false

theorem rowA_app (r : List (List UInt8)) (h : List UInt8) : AV.sl (.ex 35 1) (hs r ++ [.sl .sh (h.map .u8)]) = rowA (r ++ [h]) := by
  simp [rowA, rowO, hs]
theorem LogAt.set {s : List (List AV)} {p q k : Nat} {rows : List (List (List UInt8))} (h : LogAt s p q rows) (r : List (List UInt8)) (hk : k < rows.length) :
    LogAt (s.set q ((rows.map rowA).set k (rowA r))) p q (rows.set k r) := by
  refine ⟨?_, ?_, h.ne, ?_⟩
  · rw [List.getElem?_set, if_neg (fun e => h.ne e.symm), h.log]; simp
  · rw [List.getElem?_set, if_pos rfl, if_pos h.qlt, List.map_set]
  · intro e; have := congrArg List.length e; simp at this; exact h.pos this
theorem LogAt.grow {s : List (List AV)} {p q : Nat} {rows : List (List (List UInt8))} (h : LogAt s p q rows) :
    LogAt ((s.set q [] ++ [rows.map rowA ++ [AV.sl .nil []]]).set p [.ms 22 1 s.length 0 (rows.length + 1)]) p s.length (rows ++ [[]]) := by
  have hp := h.plt
  refine ⟨?_, ?_, by omega, by simp⟩
  · rw [List.getElem?_set, if_pos rfl, if_pos (by simp; omega)]; simp
  · rw [List.getElem?_set, if_neg (by omega), List.getElem?_append_right (by simp)]; simp [rowA, rowO, hs]
/-- rows that are not too long -/
def RowsOk (rows : List (List (List UInt8))) : Prop := rows.length ≤ 60 ∧ ∀ r ∈ rows, r.length ≤ 2 ^ 21 ∧ ∀ x ∈ r, x.length ≤ 2 ^ 20
structure AppSt where
  k : Nat
  rows : List (List (List UInt8))
  h : List UInt8
  s : List (List AV)
theorem set_same (C : List AV) (k : Nat) (d v : AV) (hk : k < C.length) : (C.set k d).take k ++ v :: (C.set k d).drop (k + 1) = C.set k v := by
  have h1 : (C.set k d).set k v = C.set k v := List.set_set ..
  rw [← h1, List.set_eq_take_append_cons_drop (l := C.set k d), if_pos (by simpa using hk)]
/-- how the boxes stand, on the way -/
structure AppOk (s0 : List (List AV)) (p q0 : Nat) (goal : List (List (List UInt8))) (x : AppSt) (q : Nat) : Prop where
  log : LogAt x.s p q x.rows
  ok : x.rows.length ≤ 60 ∧ ∀ r ∈ x.rows.drop x.k, r.length ≤ 2 ^ 21 ∧ ∀ y ∈ r, y.length ≤ 2 ^ 20
  hl : x.h.length ≤ 2 ^ 20
  le : x.k ≤ x.rows.length
  goal : x.rows.take x.k ++ pushB nodeB [] (x.rows.drop x.k) x.h = goal
  frame : ∀ b, b < s0.length → b ≠ p → b ≠ q0 → x.s[b]? = s0[b]?
  len : s0.length ≤ x.s.length
  eq : q = q0
theorem Append_core (s : List (List AV)) (p q b n : Nat) (rows : List (List (List UInt8))) (r0 : List (List UInt8)) (h0 : List UInt8) (hlog : LogAt s p q rows) (hr : rows[0]? = some r0) (h20 : r0.length < 1048576) (hok : RowsOk rows) (hh : h0.length ≤ 2 ^ 20)
    (hleaf : ev 27 [.ms 5 1 b 0 n] s = some (.sl (.ex 5 1) (h0.map .u8), s)) :
    ∃ r, ev 32 [logP p, .ms 5 1 b 0 n] s = some r ∧ ∃ s' q', r = (.tup [.int .i64 r0.length, .int .i64 0], s') ∧ LogAt s' p q' (pushB nodeB [] rows h0) ∧
      (∀ b, b < s.length → b ≠ p → b ≠ q → s'[b]? = s[b]?) ∧ s.length ≤ s'.length ∧ (q' = q ∨ s.length ≤ q') := by
  have hsz := Size_eq s p q rows r0 hlog hr
  have c1 : ¬ (1048576 : Int) ≤ (r0.length : Int) := by omega
  have c2 : ¬ 1048576 ≤ r0.length := by omega
  obtain ⟨goal, hgoal⟩ : ∃ g, pushB nodeB [] rows h0 = g := ⟨_, rfl⟩
  rw [hgoal]
  simp only [logP] at hsz ⊢
  refine EV_postE rfl Tryz.func32 rfl (by simp [Tryz.ntmps32]) (by kernel_rfl) (by kernel_rfl) ?_
  simp (maxSteps := 4000000) [List.getElem?_cons_zero, List.getElem?_cons_succ, hsz, c1, c2, hleaf]
  refine Post_loop (I := fun x : AppSt => ⟨[(0, logP p), (6, .int .i64 r0.length), (7, .sl (.ex 5 1) (x.h.map .u8)), (8, .int .i64 x.k)], [], x.s⟩) (Pr := fun x => AppOk s p q goal x q) (μ := fun x => x.rows.length - x.k) (a := ⟨0, rows, h0, s⟩) (by simp [logP])
    ⟨hlog, ⟨hok.1, by simpa using hok.2⟩, hh, Nat.zero_le _, by simpa using hgoal, fun _ _ _ _ => rfl, Nat.le_refl _, rfl⟩ ?_
  rintro ⟨k, rows, h, s1⟩ ⟨hl, hok, hhl, hk, hto, hfr, hlen, _⟩
  simp only at hl hok hhl hk hto hfr hlen ⊢
  have e1 := hl.log
  have e2 := hl.row
  by_cases hkn : k < rows.length
  · obtain ⟨r, hr⟩ : ∃ r, rows[k]? = some r := ⟨_, List.getElem?_eq_getElem hkn⟩
    have e3 : (rows.map rowA)[k]? = some (rowA r) := by rw [List.getElem?_map, hr]; rfl
    have hS := hl.set (r ++ [h]) hkn
    have hdrop : rows.drop k = r :: rows.drop (k + 1) := by rw [List.drop_eq_getElem_cons hkn]; congr 1; exact (List.getElem?_eq_some_iff.1 hr).2
    obtain ⟨hr1, hr2⟩ := hok.2 r (by rw [hdrop]; simp)
    have hC : (rows.map rowA).length = rows.length := by simp
    have e4 : ∀ d v : AV, ((rows.map rowA).set k d).take k ++ v :: ((rows.map rowA).set k d).drop (k + 1) = (rows.map rowA).set k v := fun d v => set_same _ k d v (by simpa using hkn)
    have e5 : ∀ X, (s1.set q X)[p]? = some [.ms 22 1 q 0 rows.length] := fun X => by rw [List.getElem?_set, if_neg (fun e => hl.ne e.symm)]; exact e1
    have e6 : ∀ X, (s1.set q X)[q]? = some X := fun X => by rw [List.getElem?_set, if_pos rfl, if_pos hl.qlt]
    have hkne : ¬ k = rows.length := by omega
    have hrow := rowA_app r h
    generalize hRows : rows.map rowA = C at *
    have hk1 : k + 1 ≤ rows.length := by omega
    have hn1 : r.length + 1 ≤ most := by unfold most; omega
    have hS' : LogAt (s1.set q (C.set k (.sl (.ex 35 1) (hs r ++ [.sl .sh (h.map .u8)])))) p q (rows.set k (r ++ [h])) := by rw [hrow]; exact hS
    have hfr' : ∀ X, ∀ b, b < s.length → b ≠ p → b ≠ q → (s1.set q X)[b]? = s[b]? := fun X b h1 h2 h3 => by rw [List.getElem?_set, if_neg (fun e => h3 e.symm)]; exact hfr b h1 h2 h3
    have hlen' : ∀ X, s.length ≤ (s1.set q X).length := fun X => by simpa using hlen
    rw [hdrop, pushB] at hto
    have hsetk : rows.set k (r ++ [h]) = rows.take k ++ (r ++ [h]) :: rows.drop (k + 1) := by rw [List.set_eq_take_append_cons_drop, if_pos hkn]
    by_cases hev : r.length % 2 = 0
    · rw [if_pos hev, ← hsetk] at hto
      have hto' := hto
      rw [hto] at hS'
      have m1 : ((r.length : Int) + 1).tmod 2 = 1 := by rw [Int.tmod_eq_emod_of_nonneg (by omega)]; omega
      clear hS hdrop hsetk
      cases r with
      | nil =>
        have e3' : C[k]? = some (.sl .nil []) := e3
        have hS'' : LogAt (s1.set q (C.set k (.sl (.ex 35 1) [.sl .sh (h.map .u8)]))) p q goal := hS'
        simp (maxSteps := 4000000) [List.getElem?_cons_zero, List.getElem?_cons_succ, -getElem?_pos, logP, e1, e2, e3', e4, e5, e6, hkn, hkne, hk1, hC, Tryz.results32]
        repeat (rw [need_of]; rotate_left; (· (try unfold most); omega); simp (maxSteps := 4000000) [List.getElem?_cons_zero, List.getElem?_cons_succ, -getElem?_pos, logP, e1, e2, e3', e4, e5, e6, hkn, hkne, hk1, hC, Tryz.results32])
        exact ⟨_, _, ⟨rfl, rfl⟩, _, ⟨rfl, rfl⟩, q, hS'', fun b h1 h2 h3 => hfr' _ b h1 h2 h3, hlen' _, .inl rfl⟩
      | cons x r =>
        have e3' : C[k]? = some (.sl (.ex 35 1) (hs (x :: r))) := e3
        have hXl : (hs (x :: r)).length = (x :: r).length := by simp [hs]
        obtain ⟨X, hX⟩ : ∃ X, hs (x :: r) = X := ⟨_, rfl⟩
        obtain ⟨z, hz⟩ : ∃ z, (x :: r).length = z := ⟨_, rfl⟩
        rw [hX] at e3' hXl hS'
        rw [hz] at hXl m1 hn1
        simp (maxSteps := 4000000) [List.getElem?_cons_zero, List.getElem?_cons_succ, -getElem?_pos, logP, e1, e2, e3', e4, e5, e6, hkn, hkne, hk1, hC, hXl, need_of hn1, m1, Tryz.results32]
        repeat (rw [need_of]; rotate_left; (· (try unfold most); omega); simp (maxSteps := 4000000) [List.getElem?_cons_zero, List.getElem?_cons_succ, -getElem?_pos, logP, e1, e2, e3', e4, e5, e6, hkn, hkne, hk1, hC, hXl, need_of hn1, m1, Tryz.results32])
        exact ⟨_, _, ⟨rfl, rfl⟩, _, ⟨rfl, rfl⟩, q, hS', fun b h1 h2 h3 => hfr' _ b h1 h2 h3, hlen' _, .inl rfl⟩
    · rw [if_neg hev] at hto
      have m1 : ((r.length : Int) + 1).tmod 2 = 0 := by rw [Int.tmod_eq_emod_of_nonneg (by omega)]; omega
      obtain ⟨g, hg⟩ : ∃ g, r[r.length - 1]? = some g := ⟨_, List.getElem?_eq_getElem (by omega)⟩
      have hgl : r.getLast?.getD [] = g := by rw [List.getLast?_eq_getElem?, hg]; rfl
      rw [hgl] at hto
      have hgb := hr2 g (List.mem_of_getElem? hg)
      have hN := Node_eq .sh .sh g h (by omega) (by omega)
      have hro : rowA r = .sl (.ex 35 1) (hs r) := by unfold rowA rowO; rw [if_neg (by intro e; subst e; simp at hev)]
      rw [hro] at e3
      have hXl : (hs r).length = r.length := by simp [hs]
      have hXg : (hs r ++ [AV.sl .sh (h.map .u8)])[r.length - 1]? = some (.sl .sh (g.map .u8)) := by
        rw [List.getElem?_append_left (by rw [hXl]; omega)]; simp [hs, hg]
      have w1 : IntKind.i64.wrap ((r.length : Int) + 1 - 2) = ((r.length - 1 : Nat) : Int) := by rw [wrap64 (by omega)]; omega
      have w2 : IntKind.i64.wrap ((k : Int) + 1) = ((k + 1 : Nat) : Int) := by rw [wrap64 (by omega)]; omega
      have hzlt : r.length - 1 < r.length + 1 := by omega
      obtain ⟨X, hX⟩ : ∃ X, hs r = X := ⟨_, rfl⟩
      obtain ⟨z, hz⟩ : ∃ z, r.length = z := ⟨_, rfl⟩
      rw [hX] at e3 hXl hXg hS'
      rw [hz] at hXl m1 hn1 hXg w1 hzlt
      simp (maxSteps := 4000000) [List.getElem?_cons_zero, List.getElem?_cons_succ, -getElem?_pos, logP, e1, e2, e3, e4, e5, e6, hkn, hkne, hk1, hC, hXl, hXg, hzlt, w1, w2, need_of hn1, m1, hN]
      repeat (rw [need_of]; rotate_left; (· (try unfold most); omega); simp (maxSteps := 4000000) [List.getElem?_cons_zero, List.getElem?_cons_succ, -getElem?_pos, logP, e1, e2, e3, e4, e5, e6, hkn, hkne, hk1, hC, hXl, hXg, hzlt, w1, w2, need_of hn1, m1, hN])
      have hsplit : rows.take k ++ (r ++ [h]) :: rows.drop (k + 1) = (rows.take k ++ [r ++ [h]]) ++ rows.drop (k + 1) := by simp
      have hspl : (rows.take k ++ [r ++ [h]]).length = k + 1 := by simp; omega
      refine ⟨⟨k + 1, rows.set k (r ++ [h]), nodeB g h, _⟩, ⟨hS', ⟨by simpa using hok.1, fun y hy => ?_⟩, by rw [nodeB_len]; omega, by simp only [List.length_set]; omega, ?_, fun b h1 h2 h3 => hfr' _ b h1 h2 h3, hlen' _, rfl⟩, by simp; omega, ⟨rfl, by simp⟩, rfl⟩
      · refine hok.2 y ?_
        rw [hdrop]
        simp only [hsetk] at hy
        rw [hsplit, List.drop_left' hspl] at hy
        exact List.mem_cons_of_mem _ hy
      · simp only [hsetk]
        rw [hsplit, List.drop_left' hspl, List.take_left' hspl, ← hto]
        simp
  · have hkn' : k = rows.length := by omega
    subst hkn'
    have hG := hl.grow
    have hC : (rows.map rowA).length = rows.length := by simp
    rw [List.take_of_length_le (Nat.le_refl _), List.drop_of_length_le (Nat.le_refl _), pushB] at hto
    have hn1 : rows.length + 1 ≤ most := by unfold most; omega
    have hpos : 0 < rows.length := List.length_pos_iff.2 hl.pos
    have hpl := hl.plt
    have hql := hl.qlt
    have hS := hG.set [h] (k := rows.length) (by simp)
    have e7 : s1.set p [.ms 22 1 q 0 rows.length] = s1 := by
      apply List.ext_getElem?
      intro i
      rw [List.getElem?_set]
      by_cases e : p = i
      · subst e; rw [if_pos rfl, if_pos hpl, e1]
      · rw [if_neg e]
    have f0 : (s1.set q [] ++ [rows.map rowA ++ [AV.sl .nil []]])[p]? = some [.ms 22 1 q 0 rows.length] := by
      rw [List.getElem?_append_left (by simpa using hpl), List.getElem?_set, if_neg (fun e => hl.ne e.symm), e1]
    have fr3 : ∀ b, b < s.length → b ≠ p → b ≠ q → ((s1.set q [] ++ [rows.map rowA ++ [AV.sl .nil []]]).set p [.ms 22 1 s1.length 0 (rows.length + 1)])[b]? = s[b]? := by
      intro b h1 h2 h3
      rw [List.getElem?_set, if_neg (fun e => h2 e.symm), List.getElem?_append_left (by simp; omega), List.getElem?_set, if_neg (fun e => h3 e.symm), hfr b h1 h2 h3]
    have len3 : ((s1.set q [] ++ [rows.map rowA ++ [AV.sl .nil []]]).set p [.ms 22 1 s1.length 0 (rows.length + 1)]).length = s1.length + 1 := by simp
    have g1 := hG.log
    have g2 := hG.row
    have g5 : ∀ X, ((((s1.set q [] ++ [rows.map rowA ++ [AV.sl .nil []]]).set p [.ms 22 1 s1.length 0 (rows.length + 1)]).set s1.length X))[p]? = some [.ms 22 1 s1.length 0 (rows.length + 1)] := fun X => by
      rw [List.getElem?_set, if_neg (by omega), g1]; simp
    have g6 : ∀ X, ((((s1.set q [] ++ [rows.map rowA ++ [AV.sl .nil []]]).set p [.ms 22 1 s1.length 0 (rows.length + 1)]).set s1.length X))[s1.length]? = some X := fun X => by
      rw [List.getElem?_set, if_pos rfl, if_pos (by simp)]
    have hlow : (rows ++ [[]]).length = rows.length + 1 := by simp
    rw [hlow] at g1
    have g2' : ((s1.set q [] ++ [rows.map rowA ++ [AV.sl .nil []]]).set p [.ms 22 1 s1.length 0 (rows.length + 1)])[s1.length]? = some (rows.map rowA ++ [AV.sl .nil []]) := by rw [g2]; simp [rowA, rowO, hs]
    have hto2 : (rows ++ [[]]).set rows.length [h] = goal := by rw [← hto]; simp
    have hcel : ((rows ++ [[]]).map rowA).set rows.length (rowA [h]) = (rows.map rowA ++ [AV.sl .nil []]).set rows.length (.sl (.ex 35 1) [.sl .sh (h.map .u8)]) := by simp [rowA, rowO, hs]
    rw [hto2, hcel] at hS
    generalize hRows : rows.map rowA = C at *
    have g3 : (C ++ [AV.sl .nil []])[rows.length]? = some (.sl .nil []) := by rw [← hC]; simp
    have g4 : ∀ d v : AV, ((C ++ [AV.sl .nil []]).set rows.length d).take rows.length ++ v :: ((C ++ [AV.sl .nil []]).set rows.length d).drop (rows.length + 1) = (C ++ [AV.sl .nil []]).set rows.length v := fun d v => set_same _ _ d v (by simp; omega)
    have hlC : (C ++ [AV.sl .nil []]).length = rows.length + 1 := by simp [hC]
    obtain ⟨s2, hs2⟩ : ∃ s2, s1.set q [] ++ [C ++ [AV.sl .nil []]] = s2 := ⟨_, rfl⟩
    obtain ⟨C2, hC2⟩ : ∃ C2, C ++ [AV.sl .nil []] = C2 := ⟨_, rfl⟩
    rw [hC2] at g3 g4 hlC g2' hs2 hS fr3 len3 f0 g1 g5 g6
    rw [hs2] at f0 fr3 len3 g1 g5 g6 g2' hS
    obtain ⟨s3, hs3⟩ : ∃ s3, s2.set p [.ms 22 1 s1.length 0 (rows.length + 1)] = s3 := ⟨_, rfl⟩
    rw [hs3] at fr3 len3 g1 g5 g6 g2' hS
    have hrl : rows.length < rows.length + 1 := by omega
    simp (maxSteps := 4000000) [List.getElem?_cons_zero, List.getElem?_cons_succ, -getElem?_pos, logP, e1, e2, e7, hpos, hC, need_of hn1, hC2, hs2, f0, hs3, g1, g2', g3, g4, g5, g6, hlC, hrl, Tryz.results32]
    repeat (rw [need_of]; rotate_left; (· (try unfold most); omega); simp (maxSteps := 4000000) [List.getElem?_cons_zero, List.getElem?_cons_succ, -getElem?_pos, logP, e1, e2, e7, hpos, hC, need_of hn1, hC2, hs2, f0, hs3, g1, g2', g3, g4, g5, g6, hlC, hrl, Tryz.results32])
    refine ⟨_, _, ⟨rfl, rfl⟩, _, ⟨rfl, rfl⟩, s1.length, hS, fun b h1 h2 h3 => ?_, by simp; omega, .inr hlen⟩
    rw [List.getElem?_set, if_neg (by omega)]
    exact fr3 b h1 h2 h3
end Go.Proofs.Tryz.Ai
end
section
/- A log of records, made. -/
namespace Go.Proofs.Tryz.Ai
open Go Go.AI Go.Proofs
set_option maxHeartbeats 1000000
set_option linter.unusedVariables false

def leafB (l : List UInt8) : List UInt8 := sha256 (0 :: l)
theorem leafB_len (l : List UInt8) : (leafB l).length = 32 := sha256_len _
theorem tfresh_eq (o : Own) (l : List UInt8) (hl : l.length ≤ 2 ^ 39) (σ) : ev 46 [.sl o (l.map .u8)] σ = some (.sl (.ex 5 1) (l.map .u8), σ) := by
  refine EV_post rfl Tryz.func46 rfl (by simp [Tryz.ntmps46]) (by kernel_rfl) (by kernel_rfl) ?_
  simp (maxSteps := 4000000) [List.getElem?_cons_zero, List.getElem?_cons_succ, Tryz.results46]
  repeat (rw [need_of]; rotate_left; (· (try unfold most); omega); simp (maxSteps := 4000000) [List.getElem?_cons_zero, List.getElem?_cons_succ, Tryz.results46])
theorem rLeaf_eq (o : Own) (l : List UInt8) (hl : l.length + 1 ≤ 2 ^ 30) (σ) : ev 34 [.sl o (l.map .u8)] σ = some (.sl (.ex 5 1) ((leafB l).map .u8), σ) := by
  have h := rSHA256_eq .sh (0 :: l) (by simp; omega)
  have h' : ∀ σ, ev 74 [.sl .sh (.int .u8 0 :: l.map .u8)] σ = some (.sl (.ex 5 1) ((leafB l).map .u8), σ) := fun σ => h σ
  refine EV_post rfl Tryz.func34 rfl (by simp [Tryz.ntmps34]) (by kernel_rfl) (by kernel_rfl) ?_
  simp (maxSteps := 4000000) [List.getElem?_cons_zero, List.getElem?_cons_succ, h', Tryz.results34]
  repeat (rw [need_of]; rotate_left; (· (try unfold most); omega); simp (maxSteps := 4000000) [List.getElem?_cons_zero, List.getElem?_cons_succ, h', Tryz.results34])
/-- the rows of some leaves -/
def rowsB (l : List (List UInt8)) : List (List (List UInt8)) := l.foldl (pushB nodeB []) [[]]
def leafF (l : List (List UInt8)) (i : Nat) : List UInt8 := l.getD i []
theorem rowsB_up (l : List (List UInt8)) (k : Nat) (hk : k ≤ l.length) : rowsB (l.take k) = upT nodeB (leafF l) 0 k :=
  fold_up l (fun i x h => by simp [leafF, List.getD, h]) k hk
theorem wholeT_len (L : Nat → List UInt8) (l : Nat) (k : Nat) (h : ∀ i, (L i).length ≤ 2 ^ 20) : (wholeT nodeB L l k).length ≤ 2 ^ 20 := by
  cases l with
  | zero => exact h k
  | succ l => rw [wholeT, nodeB_len]; omega
theorem up_ok (L : Nat → List UInt8) (n : Nat) (hn : n < 2 ^ 21) (h : ∀ i, (L i).length ≤ 2 ^ 20) : RowsOk (upT nodeB L 0 n) := by
  constructor
  · refine Nat.le_trans (upT_len_neg (j := 60) ?_) (Nat.le_refl _)
    have : n / 2 ^ 60 = 0 := Nat.div_eq_of_lt (by omega)
    simp [this]
  · intro r hr
    obtain ⟨j, hj⟩ := List.mem_iff_getElem?.1 hr
    rw [upT_get] at hj
    split at hj
    · injection hj with hj
      subst hj
      rw [rowT_len]
      refine ⟨Nat.le_trans (Nat.div_le_self _ _) (by omega), fun x hx => ?_⟩
      obtain ⟨k, _, rfl⟩ := List.mem_map.1 hx
      exact wholeT_len L _ k h
    · cases hj
theorem leafF_len (l : List (List UInt8)) (h : ∀ x ∈ l, x.length ≤ 2 ^ 20) (i : Nat) : (leafF l i).length ≤ 2 ^ 20 := by
  unfold leafF
  rw [List.getD_eq_getElem?_getD]
  cases hx : l[i]? with
  | none => simp
  | some x => simpa using h x (List.mem_of_getElem? hx)
structure MadeSt where
  i : Nat
  s : List (List AV)
  p : Nat
  q : Nat
structure MadeOk (σ : List (List AV)) (l : List (List UInt8)) (x : MadeSt) : Prop where
  le : x.i ≤ l.length
  log : LogAt x.s x.p x.q (rowsB (l.take x.i))
  pre : ∀ b, b < σ.length → x.s[b]? = σ[b]?
  len : σ.length ≤ x.s.length
  hp : σ.length ≤ x.p
  hq : σ.length ≤ x.q
theorem log_ne (p : Nat) (sh : Option (TypeId × Nat)) : bin Tryz.prog .neq true 25 (.gp p 0 sh) .nilp = some (.bool true) := by
  have h : Tryz.prog.underlying 25 = some (.pointer (Tryz.prog.pointee 25)) := by kernel_rfl
  simp only [bin, isNilP, bnd_some]
  rw [need_of h]; rfl
theorem made_eq (l : List (List UInt8)) (hl : l.length ≤ 1000) (hx : ∀ x ∈ l, x.length ≤ 2 ^ 28) (σ : List (List AV)) :
    ∃ r, ev 8 [.sl .sh (hs l)] σ = some r ∧ ∃ s p q, r = (.tup [logP p, .sl .sh (hs (l.map leafB))], s) ∧ LogAt s p q (rowsB (l.map leafB)) ∧ (∀ b, b < σ.length → s[b]? = σ[b]?) ∧ σ.length ≤ s.length ∧ σ.length ≤ p ∧ σ.length ≤ q := by
  obtain ⟨LB, hLB⟩ : ∃ LB, l.map leafB = LB := ⟨_, rfl⟩
  have hLBl : LB.length = l.length := by rw [← hLB]; simp
  have hLBi : ∀ (i : Nat) x, l[i]? = some x → LB[i]? = some (leafB x) := fun i x h => by rw [← hLB, List.getElem?_map, h]; rfl
  rw [hLB]
  obtain ⟨j0, p0, q0, hN, hlog0, hp0, hq0⟩ := New_eq σ
  simp only [logP] at hN
  refine EV_postE rfl Tryz.func8 rfl (by simp [Tryz.ntmps8]) (by kernel_rfl) (by kernel_rfl) ?_
  simp (maxSteps := 4000000) [List.getElem?_cons_zero, List.getElem?_cons_succ, hN]
  refine Post_loop (I := fun x : MadeSt => ⟨[(0, .sl .sh (hs l)), (4, logP x.p), (5, .sl (.ex 35 1) (hs (LB.take x.i))), (6, .int .i64 x.i)], [], x.s⟩) (Pr := MadeOk σ LB) (μ := fun x => l.length - x.i) (a := ⟨0, σ ++ j0, p0, q0⟩) (by simp [hs, logP])
    ⟨Nat.zero_le _, by simpa [rowsB] using hlog0, fun b hb => by rw [List.getElem?_append_left hb], by simp, hp0, hq0⟩ ?_
  rintro ⟨i, s, p, q⟩ ⟨hi, hlog, hpre, hlen, hp, hq⟩
  simp only at hi hlog hpre hlen hp hq ⊢
  have hhl : (hs l).length = l.length := by simp [hs]
  by_cases hc : i < l.length
  · obtain ⟨x, hxi⟩ : ∃ x, l[i]? = some x := ⟨_, List.getElem?_eq_getElem hc⟩
    have hxl := hx x (List.mem_of_getElem? hxi)
    have hxs : (hs l)[i]? = some (.sl .sh (x.map .u8)) := by simp [hs, hxi]
    obtain ⟨b, j0', hL, hb, hbs⟩ := Lent_eq x (by omega) s
    have hblt : b < (s ++ j0').length := (List.getElem?_eq_some_iff.1 hb).1
    have hup := rowsB_up LB i (by omega)
    have hup1 := rowsB_up LB (i + 1) (by omega)
    have hlen32 : ∀ y ∈ LB, y.length ≤ 2 ^ 20 := fun y hy => by
      rw [← hLB] at hy
      obtain ⟨z, _, rfl⟩ := List.mem_map.1 hy
      rw [leafB_len]; omega
    have hok : RowsOk (rowsB (LB.take i)) := by rw [hup]; exact up_ok _ _ (by omega) (leafF_len _ hlen32)
    have hr0 : (rowsB (LB.take i))[0]? = some (rowT nodeB (leafF LB) 0 i) := by rw [hup, upT_get]; simp
    obtain ⟨r1, hA, s', q', rfl, hlog', hfr, hlen', hq'⟩ := Append_core (s ++ j0') p q b x.length (rowsB (LB.take i)) _ (leafB x) hlog.app hr0 (by rw [rowT_len]; omega) hok (by rw [leafB_len]; omega) (LeafM_eq b x x.length rfl (by omega) (s ++ j0') hb)
    rw [rowT_len] at hA
    have hrow : pushB nodeB [] (rowsB (LB.take i)) (leafB x) = rowsB (LB.take (i + 1)) := by
      rw [List.take_add_one, hLBi i x hxi]
      simp [rowsB]
    rw [hrow] at hlog'
    have hpb : b ≠ p := by have := hlog.plt; omega
    have hqb : b ≠ q := by have := hlog.qlt; omega
    have hb' : s'[b]? = some ((x ++ [201]).map .u8) := by rw [hfr b hblt hpb hqb]; exact hb
    have hK := Kept_eq b x x.length rfl (by omega) s' hb'
    have hrL := rLeaf_eq .sh x (by omega)
    have hNum := Num_eq 0
    have hbq' : b ≠ q' := by omega
    have w1 : IntKind.i64.wrap ((i : Int) + 1) = (i : Int) + 1 := wrap64 (by omega)
    simp only [logP] at hA
    obtain ⟨A, hAe⟩ : ∃ A, LB.take i = A := ⟨_, rfl⟩
    rw [hAe]
    simp (maxSteps := 4000000) [List.getElem?_cons_zero, List.getElem?_cons_succ, -getElem?_pos, -regionA_true, hc, hhl, hxs, logP, log_ne, hL, hA, hK, hNum]
    obtain ⟨n, hn⟩ : ∃ n, x.length = n := ⟨_, rfl⟩
    have hnb : n ≤ 2 ^ 28 := by omega
    obtain ⟨C, hC⟩ : ∃ C, (x ++ [201]).map AV.u8 = C := ⟨_, rfl⟩
    rw [hC] at hb'
    have hCl : C.length = n + 1 := by rw [← hC, ← hn]; simp
    have hbl : b < s'.length := (List.getElem?_eq_some_iff.1 hb').1
    have hself : s'.set b C = s' := by
      apply List.ext_getElem?
      intro i
      rw [List.getElem?_set]
      by_cases e : b = i
      · subst e; rw [if_pos rfl, if_pos hbl, hb']
      · rw [if_neg e]
    refine Post_loop (I := fun y : Nat × List AV => ⟨[(0, .sl .sh (hs l)), (4, .gp p 0 (some (80, 1))), (5, .sl (.ex 35 1) (hs A)), (6, .int .i64 i), (7, .ms 5 1 b 0 n), (10, .int .i64 y.1)], [], s'.set b y.2⟩)
      (Pr := fun y => y.1 ≤ n ∧ y.2.length = n + 1) (μ := fun y => n - y.1) (a := (0, C)) (by simp [hself, hn]) ⟨Nat.zero_le _, hCl⟩ ?_
    rintro ⟨j, X⟩ ⟨hj, hX⟩
    simp only at hj hX ⊢
    have hgb : (s'.set b X)[b]? = some X := by rw [List.getElem?_set, if_pos rfl, if_pos hbl]
    by_cases hjn : j < n
    · have w2 : IntKind.i64.wrap ((j : Int) + 1) = ((j + 1 : Nat) : Int) := by rw [wrap64 (by omega)]; omega
      have hjX : j + 1 ≤ X.length := by omega
      simp (maxSteps := 4000000) [List.getElem?_cons_zero, List.getElem?_cons_succ, -getElem?_pos, hjn, hgb, hjX, w2]
      exact ⟨j + 1, _, ⟨by omega, by simp; omega⟩, by omega, by simp, rfl⟩
    · have hlogX : LogAt (s'.set b X) p q' (rowsB (LB.take (i + 1))) := hlog'.keep (by rw [List.getElem?_set, if_neg hpb]) (by rw [List.getElem?_set, if_neg hbq'])
      have hnA : A.length + 1 ≤ most := by rw [← hAe]; unfold most; simp; omega
      have hA1 : LB.take (i + 1) = A ++ [leafB x] := by rw [List.take_add_one, hLBi i x hxi, hAe]; rfl
      obtain ⟨Y, hY⟩ : ∃ Y, leafB x = Y := ⟨_, rfl⟩
      rw [hY] at hrL
      simp (maxSteps := 4000000) [List.getElem?_cons_zero, List.getElem?_cons_succ, -getElem?_pos, hjn, hc, hhl, hxs, hrL, w1, need_of hnA]
      repeat (rw [need_of]; rotate_left; (· (try unfold most); omega); simp (maxSteps := 4000000) [List.getElem?_cons_zero, List.getElem?_cons_succ, -getElem?_pos, hjn, hc, hhl, hxs, hrL, w1, need_of hnA])
      have hsj : s.length ≤ (s ++ j0').length := by simp
      refine ⟨⟨i + 1, s'.set b X, p, q'⟩, ⟨by show i + 1 ≤ LB.length; omega, hlogX, fun c hc => ?_, by simp; omega, hp, by show σ.length ≤ q'; omega⟩, by show l.length - (i + 1) < l.length - i; omega, ⟨rfl, ?_, by simp⟩, rfl⟩
      · rw [List.getElem?_set, if_neg (by omega), hfr c (by omega) (by omega) (by omega), List.getElem?_append_left (by omega), hpre c hc]
      · rw [← List.map_take, hA1, ← hY]; simp [hs]
  · have hi' : LB.take i = LB := List.take_of_length_le (by omega)
    rw [hi'] at hlog ⊢
    simp (maxSteps := 4000000) [List.getElem?_cons_zero, List.getElem?_cons_succ, hc, hhl, logP, log_ne, Tryz.results8]
    exact ⟨_, _, ⟨rfl, rfl⟩, _, _, ⟨rfl, rfl⟩, q, hlog, hpre, hlen, hp, hq⟩
end Go.Proofs.Tryz.Ai
end
section
/- What a log tells: its hashes. -/
namespace Go.Proofs.Tryz.Ai
open Go Go.AI Go.Proofs
set_option maxHeartbeats 1000000
set_option linter.unusedVariables false

/-- the hash at a place -/
def lookR (rows : List (List (List UInt8))) (v k : Int) : Option (List UInt8) := if 0 ≤ v ∧ 0 ≤ k then rows[v.toNat]?.bind fun r => r[k.toNat]? else none
def lookA : Option (List UInt8) → AV
  | some h => .tup [.sl .sh (h.map .u8), .int .i64 0]
  | none => .tup [.sl .sh [], .int .i64 6]
theorem Hash_eq (s : List (List AV)) (p q : Nat) (rows : List (List (List UInt8))) (h : LogAt s p q rows) (hok : RowsOk rows) (v k : Int) : ev 11 [logP p, .int .i64 v, .int .i64 k] s = some (lookA (lookR rows v k), s) := by
  have e1 := h.log
  have e2 := h.row
  simp only [logP]
  refine EV_post rfl Tryz.func11 rfl (by simp [Tryz.ntmps11]) (by kernel_rfl) (by kernel_rfl) ?_
  by_cases hv : v < 0
  · have hl : lookR rows v k = none := by unfold lookR; rw [if_neg (by omega)]
    simp (maxSteps := 4000000) [List.getElem?_cons_zero, List.getElem?_cons_succ, hv, hl, lookA, Tryz.results11]
  · obtain ⟨a, rfl⟩ := Int.eq_ofNat_of_zero_le (show 0 ≤ v by omega)
    by_cases ha : a < rows.length
    · obtain ⟨r, hr⟩ : ∃ r, rows[a]? = some r := ⟨_, List.getElem?_eq_getElem ha⟩
      have e3 : (rows.map rowA)[a]? = some (.sl (rowO r) (hs r)) := by rw [List.getElem?_map, hr]; rfl
      have hal : ¬ rows.length ≤ a := by omega
      by_cases hk : k < 0
      · have hl : lookR rows a k = none := by unfold lookR; rw [if_neg (by omega)]
        simp (maxSteps := 4000000) [List.getElem?_cons_zero, List.getElem?_cons_succ, -getElem?_pos, e1, hal, hk, hl, lookA, Tryz.results11]
      · obtain ⟨b, rfl⟩ := Int.eq_ofNat_of_zero_le (show 0 ≤ k by omega)
        have hC : (rows.map rowA).length = rows.length := by simp
        have hXl : (hs r).length = r.length := by simp [hs]
        by_cases hb : b < r.length
        · obtain ⟨x, hx⟩ : ∃ x, r[b]? = some x := ⟨_, List.getElem?_eq_getElem hb⟩
          have hl : lookR rows a b = some x := by unfold lookR; rw [if_pos (by omega)]; simp [hr, hx]
          have hxl := (hok.2 r (List.mem_of_getElem? hr)).2 x (List.mem_of_getElem? hx)
          have hf := tfresh_eq .sh x (by omega)
          have e4 : (hs r)[b]? = some (.sl .sh (x.map .u8)) := by simp [hs, hx]
          have hbl : ¬ r.length ≤ b := by omega
          generalize rows.map rowA = C at *
          generalize hs r = X at *
          simp (maxSteps := 4000000) [List.getElem?_cons_zero, List.getElem?_cons_succ, -getElem?_pos, e1, e2, e3, e4, ha, hb, hal, hbl, hXl, hl, hf, lookA, Tryz.results11]
        · have hl : lookR rows a b = none := by unfold lookR; rw [if_pos (by omega)]; simp [hr]; omega
          have hbl : r.length ≤ b := by omega
          generalize rows.map rowA = C at *
          generalize hs r = X at *
          simp (maxSteps := 4000000) [List.getElem?_cons_zero, List.getElem?_cons_succ, -getElem?_pos, e1, e2, e3, ha, hal, hbl, hXl, hl, lookA, Tryz.results11]
    · have hal : rows.length ≤ a := by omega
      have hl : lookR rows a k = none := by unfold lookR; split; simp [List.getElem?_eq_none hal]; rfl
      simp (maxSteps := 4000000) [List.getElem?_cons_zero, List.getElem?_cons_succ, -getElem?_pos, e1, ha, hal, hl, lookA, Tryz.results11]
end Go.Proofs.Tryz.Ai
end
section
/- Hashes by a function that reads. -/
namespace Go.Proofs.Tryz.Ai
open Go Go.AI Go.Proofs
set_option maxHeartbeats 1000000
set_option linter.unusedVariables false

/-- a power of two's exponent -/
def lgN (n : Nat) : Option Nat := (List.range 21).find? fun v => 2 ^ v == n
theorem lgN_some {n v : Nat} (h : lgN n = some v) : v ≤ 20 ∧ 2 ^ v = n := by
  have h1 := List.find?_some h
  have h2 := List.mem_of_find?_eq_some h
  simp at h1 h2
  exact ⟨by omega, h1⟩
theorem lgN_none {n v : Nat} (h : lgN n = none) (hv : v ≤ 20) : ¬ 2 ^ v = n := by
  have := List.find?_eq_none.1 h v (by simp; omega)
  simpa using this
theorem level_eq (n : Nat) (hn : n ≤ 2 ^ 30) (σ) : ev 91 [.int .i64 n] σ = some (.int .i64 (match lgN n with | some v => (v : Int) | none => -1), σ) := by
  refine EV_post rfl Tryz.func91 rfl (by simp [Tryz.ntmps91]) (by kernel_rfl) (by kernel_rfl) ?_
  simp (maxSteps := 4000000) [List.getElem?_cons_zero, List.getElem?_cons_succ, ]
  refine Post_loop (I := fun v : Nat => ⟨[(0, .int .i64 n), (3, .int .i64 v)], [], σ⟩) (Pr := fun v => v ≤ 21 ∧ ∀ u, u < v → ¬ 2 ^ u = n) (μ := fun v => 21 - v) (a := 0) (by simp) (by simp) ?_
  rintro v ⟨hv, hu⟩
  by_cases hc : v ≤ 20
  · have w1 : IntKind.i64.wrap ((v : Int) + 1) = (v : Int) + 1 := wrap64 (by omega)
    obtain ⟨x, hx⟩ : ∃ x, 2 ^ v = x := ⟨_, rfl⟩
    have hx1 : x ≤ 2 ^ 20 := by rw [← hx]; exact Nat.pow_le_pow_right (by omega) hc
    have hmin : min v 64 = v := by omega
    have hpow : (2 : Int) ^ v = (x : Int) := by rw [← hx]; simp
    have hb : IntKind.i64.bits = 64 := rfl
    have w2 : IntKind.i64.wrap (x : Int) = (x : Int) := wrap64 (by omega)
    have hv0 : ¬ (v : Int) < 0 := by omega
    by_cases hq : x = n
    · have hl : lgN n = some v := by
        cases hg : lgN n with
        | none => exact absurd (hx.trans hq) (lgN_none hg hc)
        | some u =>
          have := lgN_some hg
          rw [← hq, ← hx] at this
          rw [(Nat.pow_right_inj (a := 2) (by omega)).1 this.2]
      rw [hq] at w2 hpow
      simp (maxSteps := 4000000) [List.getElem?_cons_zero, List.getElem?_cons_succ, hc, hb, hmin, hpow, w2, hv0, hl, Tryz.results91]
    · have hu2 : ∀ u, u < v + 1 → ¬ 2 ^ u = n := by
        intro u h1
        rcases Nat.lt_or_ge u v with h2 | h2
        · exact hu u h2
        · have : u = v := by omega
          subst this; rw [hx]; exact hq
      simp (maxSteps := 4000000) [List.getElem?_cons_zero, List.getElem?_cons_succ, hc, hb, hmin, hpow, w1, w2, hv0, hq]
      exact ⟨v + 1, ⟨by omega, hu2⟩, by omega, by simp⟩
  · have hl : lgN n = none := by
      cases hg : lgN n with
      | none => rfl
      | some u => exact absurd (lgN_some hg).2 (hu u (by have := (lgN_some hg).1; omega))
    have w0 : IntKind.i64.wrap (-1) = -1 := by decide
    simp (maxSteps := 4000000) [List.getElem?_cons_zero, List.getElem?_cons_succ, hc, hl, w0, Tryz.results91]
/-- a function that reads: what it answers at a count, and the count behind it -/
structure Rd where
  g : Nat
  cap : List AV
  S : Nat → List (List AV)
  R : Nat → Nat → Nat → List UInt8 × Int × Nat
structure RdOk (r : Rd) (A B : Nat) : Prop where
  lt : r.g < 100000
  pers : r.cap.map dem = r.cap ∧ ∀ c ∈ r.cap, AI.pers c = true
  run : ∀ j v k : Nat, v ≤ 20 → (k + 1) * 2 ^ v ≤ B → ev r.g (.int .i64 (v : Int) :: .int .i64 (k : Int) :: r.cap) (r.S j) = some (.tup [.sl .sh ((r.R j v k).1.map .u8), .int .i64 (r.R j v k).2.1], r.S (r.R j v k).2.2)
  len : ∀ j v k, (r.R j v k).1.length ≤ 2 ^ 20
  bad : ∀ j v k, -2 ^ 40 ≤ (r.R j v k).2.1 ∧ (r.R j v k).2.1 ≤ 2 ^ 40
  low : ∀ i j, lowS (r.S i) (r.S j)
  eq : ∀ j, (r.S j).length = A
def hashP (r : Rd) (f n j : Nat) : List UInt8 × Int × Nat := match lgN n with
  | some v => r.R j v (f / n)
  | none => if h : 2 ≤ n then
      let x := hashP r f (halfN n) j
      if x.2.1 ≠ 0 then ([], x.2.1, x.2.2) else
      let y := hashP r (f + halfN n) (n - halfN n) x.2.2
      if y.2.1 ≠ 0 then ([], y.2.1, y.2.2) else (nodeB x.1 y.1, 0, y.2.2)
    else ([], 0, j)
termination_by n
decreasing_by
  · exact (halfN_spec h).2.1
  · have := halfN_spec h; omega
theorem hashP_len {r : Rd} {A B : Nat} (h : RdOk r A B) (n : Nat) : ∀ f j, (hashP r f n j).1.length ≤ 2 ^ 20 ∧ -2 ^ 40 ≤ (hashP r f n j).2.1 ∧ (hashP r f n j).2.1 ≤ 2 ^ 40 := by
  induction n using Nat.strongRecOn with
  | _ n ih =>
    intro f j
    rw [hashP]
    split
    · exact ⟨h.len _ _ _, h.bad _ _ _⟩
    · split
      · rename_i h2
        have hs := halfN_spec h2
        dsimp only
        split
        · exact ⟨by simp, (ih _ hs.2.1 _ _).2⟩
        · split
          · exact ⟨by simp, (ih _ (by omega) _ _).2⟩
          · exact ⟨by rw [nodeB_len]; omega, by simp, by simp⟩
      · exact ⟨by simp, by simp, by simp⟩
theorem hash_eq {r : Rd} {A B : Nat} (h : RdOk r A B) (hB : B ≤ 2 ^ 30) (n : Nat) : ∀ f j, 1 ≤ n → algn f n → f + n ≤ B → ev 50 [.int .i64 f, .int .i64 n, .fn r.g r.cap] (r.S j) = some (.tup [.sl .sh ((hashP r f n j).1.map .u8), .int .i64 (hashP r f n j).2.1], r.S (hashP r f n j).2.2) := by
  induction n using Nat.strongRecOn with
  | _ n ih =>
    intro f j h1 ha hb
    have hL := level_eq n (by omega)
    have hcap := h.pers.1
    have hlt := h.lt
    refine EV_post rfl Tryz.func50 rfl (by simp [Tryz.ntmps50]) (by kernel_rfl) (by kernel_rfl) ?_
    cases hl : lgN n with
    | some v =>
      rw [hl] at hL
      simp only at hL
      have hv := lgN_some hl
      have hP : hashP r f n j = r.R j v (f / n) := by rw [hashP, hl]
      have hrun := h.run j v (f / n) hv.1 (by
        have e : f = f / n * n := by
          have := algn_pow (f := f) (l := v) (by rw [hv.2]; exact ha)
          rw [hv.2] at this; exact this
        rw [hv.2, Nat.add_mul, ← e, Nat.one_mul]; exact hb)
      have hlow := h.low j (r.R j v (f / n)).2.2
      have heq := h.eq (r.R j v (f / n)).2.2
      have heq0 := h.eq j
      rw [hP]
      obtain ⟨x, hx⟩ : ∃ x, r.R j v (f / n) = x := ⟨_, rfl⟩
      rw [hx] at hrun hlow heq ⊢
      have hn0 : ¬ n = 0 := by omega
      have hd : ((f : Int).tdiv n) = ((f / n : Nat) : Int) := by rw [Int.tdiv_eq_ediv_of_nonneg (by omega)]; simp
      have hkf := Nat.div_le_self f n
      obtain ⟨k, hk⟩ : ∃ k, f / n = k := ⟨_, rfl⟩
      rw [hk] at hd hrun hkf
      have w1 : IntKind.i64.wrap (k : Int) = (k : Int) := wrap64 (by omega)
      have hv0 : (0 : Int) ≤ (v : Int) := by omega
      simp (maxSteps := 4000000) [List.getElem?_cons_zero, List.getElem?_cons_succ, hL, hv0, hn0, hd, w1, hlt, hcap, hrun, Tryz.results50]
      rw [need_of hlow, List.take_of_length_le (by rw [heq, heq0]; exact Nat.le_refl _)]
    | none =>
      rw [hl] at hL
      simp only at hL
      have h2 : 2 ≤ n := by
        rcases Nat.lt_or_ge n 2 with q | q
        · have : n = 1 := by omega
          subst this
          exact absurd rfl (lgN_none hl (show 0 ≤ 20 by omega))
        · exact q
      have hs := halfN_spec h2
      obtain ⟨a1, a2⟩ := algn_half h2 ha
      have hH := half_eq n h2 (by omega)
      have i1 := ih _ hs.2.1 f j hs.1 a1 (by omega)
      have hlen1 := hashP_len h (halfN n) f j
      have i2 := ih (n - halfN n) (by omega) (f + halfN n) (hashP r f (halfN n) j).2.2 (by omega) a2 (by omega)
      have hlen2 := hashP_len h (n - halfN n) (f + halfN n) (hashP r f (halfN n) j).2.2
      have hP : hashP r f n j = if (hashP r f (halfN n) j).2.1 ≠ 0 then ([], (hashP r f (halfN n) j).2.1, (hashP r f (halfN n) j).2.2) else
          if (hashP r (f + halfN n) (n - halfN n) (hashP r f (halfN n) j).2.2).2.1 ≠ 0 then ([], (hashP r (f + halfN n) (n - halfN n) (hashP r f (halfN n) j).2.2).2.1, (hashP r (f + halfN n) (n - halfN n) (hashP r f (halfN n) j).2.2).2.2)
          else (nodeB (hashP r f (halfN n) j).1 (hashP r (f + halfN n) (n - halfN n) (hashP r f (halfN n) j).2.2).1, 0, (hashP r (f + halfN n) (n - halfN n) (hashP r f (halfN n) j).2.2).2.2) := by
        rw [hashP, hl]
        simp only
        rw [dif_pos h2]
      rw [hP]
      obtain ⟨x, hx⟩ : ∃ x, hashP r f (halfN n) j = x := ⟨_, rfl⟩
      rw [hx] at i1 i2 hlen1 hlen2 ⊢
      obtain ⟨y, hy⟩ : ∃ y, hashP r (f + halfN n) (n - halfN n) x.2.2 = y := ⟨_, rfl⟩
      rw [hy] at i2 hlen2 ⊢
      obtain ⟨t, ht⟩ : ∃ t, halfN n = t := ⟨_, rfl⟩
      rw [ht] at hH i1 i2 hs
      have w1 : IntKind.i64.wrap ((f : Int) + t) = ((f + t : Nat) : Int) := by rw [wrap64 (by omega)]; omega
      have w2 : IntKind.i64.wrap ((n : Int) - t) = ((n - t : Nat) : Int) := by rw [wrap64 (by omega)]; omega
      obtain ⟨ft, hft⟩ : ∃ z, f + t = z := ⟨_, rfl⟩
      obtain ⟨nt, hnt⟩ : ∃ z, n - t = z := ⟨_, rfl⟩
      rw [hft] at w1 i2
      rw [hnt] at w2 i2
      have hl1 := h.low j x.2.2
      have hl2 := h.low j y.2.2
      have he0 := h.eq j
      have he1 := h.eq x.2.2
      have he2 := h.eq y.2.2
      have hN := Node_eq .sh .sh x.1 y.1 (by omega) (by omega)
      by_cases c1 : x.2.1 = 0
      · rw [if_neg (by simpa using c1)]
        by_cases c2 : y.2.1 = 0
        · rw [if_neg (by simpa using c2)]
          simp (maxSteps := 4000000) [List.getElem?_cons_zero, List.getElem?_cons_succ, hL, hH, hlt, hcap, i1, i2, w1, w2, c1, c2, hN, Tryz.results50]
          rw [need_of hl2, List.take_of_length_le (by rw [he2, he0]; exact Nat.le_refl _)]
        · rw [if_pos c2]
          simp (maxSteps := 4000000) [List.getElem?_cons_zero, List.getElem?_cons_succ, hL, hH, hlt, hcap, i1, i2, w1, w2, c1, c2, Tryz.results50]
          rw [need_of hl2, List.take_of_length_le (by rw [he2, he0]; exact Nat.le_refl _)]
      · rw [if_pos c1]
        simp (maxSteps := 4000000) [List.getElem?_cons_zero, List.getElem?_cons_succ, hL, hH, hlt, hcap, i1, c1, Tryz.results50]
        rw [need_of hl1, List.take_of_length_le (by rw [he1, he0]; exact Nat.le_refl _)]
end Go.Proofs.Tryz.Ai
end
section
/- Hashes of spans by a function that reads. -/
namespace Go.Proofs.Tryz.Ai
open Go Go.AI Go.Proofs
set_option maxHeartbeats 1000000
set_option linter.unusedVariables false

def hashesP (r : Rd) : List (Nat × Nat) → Nat → List (List UInt8) × Int × Nat
  | [], j => ([], 0, j)
  | x :: l, j => if (hashP r x.1 x.2 j).2.1 ≠ 0 then ([], (hashP r x.1 x.2 j).2.1, (hashP r x.1 x.2 j).2.2) else
      if (hashesP r l (hashP r x.1 x.2 j).2.2).2.1 ≠ 0 then ([], (hashesP r l (hashP r x.1 x.2 j).2.2).2.1, (hashesP r l (hashP r x.1 x.2 j).2.2).2.2)
      else ((hashP r x.1 x.2 j).1 :: (hashesP r l (hashP r x.1 x.2 j).2.2).1, 0, (hashesP r l (hashP r x.1 x.2 j).2.2).2.2)
def joinK (O : List (List UInt8)) (z : List (List UInt8) × Int × Nat) : List (List UInt8) × Int × Nat := if z.2.1 ≠ 0 then ([], z.2.1, z.2.2) else (O ++ z.1, 0, z.2.2)
theorem joinK_cons (r : Rd) (O : List (List UInt8)) (x : Nat × Nat) (l : List (Nat × Nat)) (j : Nat) : joinK O (hashesP r (x :: l) j) = if (hashP r x.1 x.2 j).2.1 ≠ 0 then ([], (hashP r x.1 x.2 j).2.1, (hashP r x.1 x.2 j).2.2) else joinK (O ++ [(hashP r x.1 x.2 j).1]) (hashesP r l (hashP r x.1 x.2 j).2.2) := by
  rw [hashesP]
  generalize hashP r x.1 x.2 j = a
  generalize hashesP r l a.2.2 = b
  obtain ⟨a1, a2, a3⟩ := a
  obtain ⟨b1, b2, b3⟩ := b
  by_cases h : a2 = 0
  · by_cases h2 : b2 = 0
    · simp [joinK, h, h2]
    · simp [joinK, h, h2]
  · simp [joinK, h]
theorem joinK_nil (r : Rd) (l : List (Nat × Nat)) (j : Nat) : joinK [] (hashesP r l j) = hashesP r l j := by
  cases l with
  | nil => simp [joinK, hashesP]
  | cons x l =>
    unfold joinK
    rw [hashesP]
    split
    · rename_i h; simp
    · split <;> simp
structure HsSt where
  i : Nat
  O : List (List UInt8)
  j : Nat
theorem hashes_eq {r : Rd} {A B : Nat} (h : RdOk r A B) (hB : B ≤ 2 ^ 30) (l : List (Nat × Nat)) (hl : l.length ≤ 2 ^ 30) (hsp : ∀ x ∈ l, 1 ≤ x.2 ∧ algn x.1 x.2 ∧ x.1 + x.2 ≤ B) (j : Nat) :
    ev 110 [.sl .sh (l.map spanA), .fn r.g r.cap] (r.S j) = some (.tup [.sl .sh (hs (hashesP r l j).1), .int .i64 (hashesP r l j).2.1], r.S (hashesP r l j).2.2) := by
  obtain ⟨goal, hgoal⟩ : ∃ g, hashesP r l j = g := ⟨_, rfl⟩
  rw [hgoal]
  have hcap := h.pers.1
  refine EV_post rfl Tryz.func110 rfl (by simp [Tryz.ntmps110]) (by kernel_rfl) (by kernel_rfl) ?_
  simp (maxSteps := 4000000) [List.getElem?_cons_zero, List.getElem?_cons_succ, hcap]
  refine Post_loop (I := fun x : HsSt => ⟨[(1, .fn r.g r.cap), (6, .sl (.ex 35 1) (hs x.O)), (11, .sl .sh (l.map spanA)), (12, .int .i64 l.length), (13, .int .i64 x.i)], [], r.S x.j⟩) (Pr := fun x => x.i ≤ l.length ∧ x.O.length ≤ x.i ∧ joinK x.O (hashesP r (l.drop x.i) x.j) = goal) (μ := fun x => l.length - x.i) (a := ⟨0, [], j⟩) (by simp [hs]) ⟨Nat.zero_le _, by simp, by rw [← hgoal]; exact joinK_nil r l j⟩ ?_
  rintro ⟨i, O, j⟩ ⟨hi, hO, hto⟩
  simp only at hi hO hto ⊢
  by_cases hc : i < l.length
  · obtain ⟨x, hx⟩ : ∃ x, l[i]? = some x := ⟨_, List.getElem?_eq_getElem hc⟩
    have hxs : (l.map spanA)[i]? = some (.agg [.int .i64 x.1, .int .i64 x.2]) := by rw [List.getElem?_map, hx]; rfl
    have hd : l.drop i = x :: l.drop (i + 1) := by rw [List.drop_eq_getElem_cons hc]; congr 1; exact (List.getElem?_eq_some_iff.1 hx).2
    obtain ⟨x1, x2, x3⟩ := hsp x (List.mem_of_getElem? hx)
    have hH := hash_eq h hB x.2 x.1 j x1 x2 x3
    have hlen := hashP_len h x.2 x.1 j
    rw [hd, joinK_cons] at hto
    obtain ⟨z, hz⟩ : ∃ z, hashP r x.1 x.2 j = z := ⟨_, rfl⟩
    rw [hz] at hH hlen hto
    have w1 : IntKind.i64.wrap ((i : Int) + 1) = (i : Int) + 1 := wrap64 (by omega)
    have hf := tfresh_eq .sh z.1 (by omega)
    have hn1 : O.length + 1 ≤ most := by unfold most; omega
    have hOl : (hs O).length = O.length := by simp [hs]
    generalize hLs : l.map spanA = Ls at *
    by_cases c1 : z.2.1 = 0
    · rw [if_neg (by simpa using c1)] at hto
      obtain ⟨X, hX⟩ : ∃ X, hs O = X := ⟨_, rfl⟩
      rw [hX] at hOl ⊢
      simp (maxSteps := 4000000) [List.getElem?_cons_zero, List.getElem?_cons_succ, -getElem?_pos, hc, hxs, hcap, hH, c1, hf, w1, hOl, need_of hn1]
      repeat (rw [need_of]; rotate_left; (· (try unfold most); omega); simp (maxSteps := 4000000) [List.getElem?_cons_zero, List.getElem?_cons_succ, -getElem?_pos, hc, hxs, hcap, hH, c1, hf, w1, hOl, need_of hn1])
      exact ⟨⟨i + 1, O ++ [z.1], z.2.2⟩, ⟨by show i + 1 ≤ l.length; omega, by show (O ++ [z.1]).length ≤ i + 1; simp; omega, hto⟩, by show l.length - (i + 1) < l.length - i; omega, ⟨by rw [← hX]; simp [hs], by simp⟩, rfl⟩
    · rw [if_pos c1] at hto
      subst hto
      simp (maxSteps := 4000000) [List.getElem?_cons_zero, List.getElem?_cons_succ, -getElem?_pos, hc, hxs, hcap, hH, c1, hs, Tryz.results110]
  · have hd : l.drop i = [] := List.drop_of_length_le (by omega)
    rw [hd] at hto
    simp [joinK, hashesP] at hto
    subst hto
    simp (maxSteps := 4000000) [List.getElem?_cons_zero, List.getElem?_cons_succ, hc, Tryz.results110]
end Go.Proofs.Tryz.Ai
end
section
/- Roots and proofs by a function that reads. -/
namespace Go.Proofs.Tryz.Ai
open Go Go.AI Go.Proofs
set_option maxHeartbeats 1000000
set_option linter.unusedVariables false

def spanOk (B : Nat) (x : Nat × Nat) : Prop := 1 ≤ x.2 ∧ algn x.1 x.2 ∧ x.1 + x.2 ≤ B
theorem pathN_ok (n : Nat) : ∀ (i f B : Nat), algn f n → f + n ≤ B → ∀ x ∈ pathN i f n, spanOk B x := by
  induction n using Nat.strongRecOn with
  | _ n ih =>
    intro i f B ha hb x hx
    rw [pathN] at hx
    split at hx
    · rename_i h2
      have hs := halfN_spec h2
      obtain ⟨a1, a2⟩ := algn_half h2 ha
      split at hx
      · rcases List.mem_append.1 hx with hx | hx
        · exact ih _ hs.2.1 i f B a1 (by omega) x hx
        · simp at hx; subst hx; exact ⟨by simp; omega, a2, by simp; omega⟩
      · rcases List.mem_append.1 hx with hx | hx
        · exact ih _ (by omega) _ _ B a2 (by omega) x hx
        · simp at hx; subst hx; exact ⟨by simp; omega, a1, by simp; omega⟩
    · simp at hx
theorem subN_ok (n : Nat) : ∀ (m f B : Nat) (w : Bool), 1 ≤ n → algn f n → f + n ≤ B → ∀ x ∈ subN m f n w, spanOk B x := by
  induction n using Nat.strongRecOn with
  | _ n ih =>
    intro m f B w h1 ha hb x hx
    rw [subN] at hx
    split at hx
    · rename_i h2
      have hs := halfN_spec (n := n) (by omega)
      obtain ⟨a1, a2⟩ := algn_half (n := n) (by omega) ha
      split at hx
      · rcases List.mem_append.1 hx with hx | hx
        · exact ih _ hs.2.1 m f B w hs.1 a1 (by omega) x hx
        · simp at hx; subst hx; exact ⟨by simp; omega, a2, by simp; omega⟩
      · rcases List.mem_append.1 hx with hx | hx
        · exact ih _ (by omega) _ _ B false (by omega) a2 (by omega) x hx
        · simp at hx; subst hx; exact ⟨by simp; omega, a1, by simp; omega⟩
    · split at hx
      · simp at hx
      · simp at hx; subst hx; exact ⟨h1, ha, hb⟩
def rootP (r : Rd) (n : Int) (j : Nat) : List UInt8 × Int × Nat := if n < 0 ∨ 1048576 < n then ([], 6, j) else if n = 0 then (sha256 [], 0, j) else
  if (hashP r 0 n.toNat j).2.1 ≠ 0 then ([], (hashP r 0 n.toNat j).2.1, (hashP r 0 n.toNat j).2.2) else hashP r 0 n.toNat j
theorem Root_eq {r : Rd} {A B : Nat} (h : RdOk r A B) (hB : B ≤ 2 ^ 30) (n : Int) (hn : n ≤ B) (j : Nat) :
    ev 75 [.int .i64 n, .fn r.g r.cap] (r.S j) = some (.tup [.sl .sh ((rootP r n j).1.map .u8), .int .i64 (rootP r n j).2.1], r.S (rootP r n j).2.2) := by
  have hcap := h.pers.1
  refine EV_post rfl Tryz.func75 rfl (by simp [Tryz.ntmps75]) (by kernel_rfl) (by kernel_rfl) ?_
  by_cases h0 : n < 0
  · have hP : rootP r n j = ([], 6, j) := by unfold rootP; rw [if_pos (.inl h0)]
    simp (maxSteps := 4000000) [List.getElem?_cons_zero, List.getElem?_cons_succ, h0, hP, Tryz.results75]
  · by_cases h1 : 1048576 < n
    · have hP : rootP r n j = ([], 6, j) := by unfold rootP; rw [if_pos (.inr h1)]
      simp (maxSteps := 4000000) [List.getElem?_cons_zero, List.getElem?_cons_succ, h0, h1, hP, Tryz.results75]
    · obtain ⟨m, rfl⟩ := Int.eq_ofNat_of_zero_le (show 0 ≤ n by omega)
      by_cases h2 : m = 0
      · subst h2
        have hS := SHA256_eq .sh [] (by simp)
        have hS' : ∀ σ, ev 70 [.sl .sh []] σ = some (.sl (.ex 5 1) ((sha256 []).map .u8), σ) := fun σ => hS σ
        have hP : rootP r 0 j = (sha256 [], 0, j) := rfl
        have hP' : rootP r ((0 : Nat) : Int) j = (sha256 [], 0, j) := rfl
        simp (maxSteps := 4000000) [List.getElem?_cons_zero, List.getElem?_cons_succ, hS', hP, hP', Tryz.results75]
      · have hP : rootP r (m : Int) j = if (hashP r 0 m j).2.1 ≠ 0 then ([], (hashP r 0 m j).2.1, (hashP r 0 m j).2.2) else hashP r 0 m j := by
          unfold rootP; rw [if_neg (by omega), if_neg (by omega)]; rfl
        have hH := hash_eq h hB m 0 j (by omega) (algn_zero m) (by omega)
        have hH' : ev 50 [.int .i64 0, .int .i64 m, .fn r.g r.cap] (r.S j) = some (.tup [.sl .sh ((hashP r 0 m j).1.map .u8), .int .i64 (hashP r 0 m j).2.1], r.S (hashP r 0 m j).2.2) := hH
        have hlen := hashP_len h m 0 j
        rw [hP]
        obtain ⟨z, hz⟩ : ∃ z, hashP r 0 m j = z := ⟨_, rfl⟩
        rw [hz] at hH' hlen ⊢
        have hf := tfresh_eq .sh z.1 (by omega)
        have h1' : ¬ 1048576 < m := by omega
        by_cases c1 : z.2.1 = 0
        · rw [if_neg (by simpa using c1)]
          simp (maxSteps := 4000000) [List.getElem?_cons_zero, List.getElem?_cons_succ, h1', h2, hcap, hH', c1, hf, Tryz.results75]
        · rw [if_pos c1]
          simp (maxSteps := 4000000) [List.getElem?_cons_zero, List.getElem?_cons_succ, h1', h2, hcap, hH', c1, Tryz.results75]
def proveP (r : Rd) (i n : Int) (j : Nat) : List (List UInt8) × Int × Nat := if 1 ≤ n ∧ n ≤ 1048576 ∧ 0 ≤ i ∧ i < n then hashesP r (pathN i.toNat 0 n.toNat) j else ([], 6, j)
theorem Prove_eq {r : Rd} {A B : Nat} (h : RdOk r A B) (hB : B ≤ 2 ^ 30) (i n : Int) (hn : n ≤ B) (j : Nat) :
    ev 76 [.int .i64 i, .int .i64 n, .fn r.g r.cap] (r.S j) = some (.tup [.sl .sh (hs (proveP r i n j).1), .int .i64 (proveP r i n j).2.1], r.S (proveP r i n j).2.2) := by
  have hcap := h.pers.1
  have hM := mayRecord_eq i n
  refine EV_post rfl Tryz.func76 rfl (by simp [Tryz.ntmps76]) (by kernel_rfl) (by kernel_rfl) ?_
  by_cases hc : 1 ≤ n ∧ n ≤ 1048576 ∧ 0 ≤ i ∧ i < n
  · obtain ⟨m, rfl⟩ := Int.eq_ofNat_of_zero_le (show 0 ≤ n by omega)
    obtain ⟨k, rfl⟩ := Int.eq_ofNat_of_zero_le (show 0 ≤ i by omega)
    have hP : proveP r k m j = hashesP r (pathN k 0 m) j := by unfold proveP; rw [if_pos hc]; rfl
    have hp := path_eq m k 0 (by omega) (by omega) (by omega)
    have hp' : ∀ σ, ev 80 [.int .i64 k, .agg [.int .i64 0, .int .i64 m]] σ = some (.sl (.ex 113 2) ((pathN k 0 m).map spanA), σ) := hp
    have hh := hashes_eq h hB (pathN k 0 m) (by have := pathN_le m k 0; omega) (fun x hx => pathN_ok m k 0 B (algn_zero m) (by omega) x hx) j
    rw [dT hc] at hM
    rw [hP]
    generalize (pathN k 0 m).map spanA = Ls at *
    obtain ⟨z, hz⟩ : ∃ z, hashesP r (pathN k 0 m) j = z := ⟨_, rfl⟩
    rw [hz] at hh ⊢
    generalize hs z.1 = Z at *
    simp (maxSteps := 4000000) [List.getElem?_cons_zero, List.getElem?_cons_succ, hM, hp', hh, hcap, Tryz.results76]
  · have hP : proveP r i n j = ([], 6, j) := by unfold proveP; rw [if_neg hc]
    rw [dF hc] at hM
    simp (maxSteps := 4000000) [List.getElem?_cons_zero, List.getElem?_cons_succ, hM, hP, hs, Tryz.results76]
end Go.Proofs.Tryz.Ai
end
section
/- Proofs of longer logs by a function that reads. -/
namespace Go.Proofs.Tryz.Ai
open Go Go.AI Go.Proofs
set_option maxHeartbeats 1000000
set_option linter.unusedVariables false

def proveTP (r : Rd) (m n : Int) (j : Nat) : List (List UInt8) × Int × Nat := if 0 ≤ n ∧ n ≤ 1048576 ∧ 0 ≤ m ∧ m ≤ n then (if m = 0 ∨ m = n then ([], 0, j) else hashesP r (subN m.toNat 0 n.toNat true) j) else ([], 6, j)
theorem ProveTree_eq {r : Rd} {A B : Nat} (h : RdOk r A B) (hB : B ≤ 2 ^ 30) (m n : Int) (hn : n ≤ B) (j : Nat) :
    ev 77 [.int .i64 m, .int .i64 n, .fn r.g r.cap] (r.S j) = some (.tup [.sl .sh (hs (proveTP r m n j).1), .int .i64 (proveTP r m n j).2.1], r.S (proveTP r m n j).2.2) := by
  have hcap := h.pers.1
  have hM := mayTree_eq m n
  refine EV_post rfl Tryz.func77 rfl (by simp [Tryz.ntmps77]) (by kernel_rfl) (by kernel_rfl) ?_
  by_cases hc : 0 ≤ n ∧ n ≤ 1048576 ∧ 0 ≤ m ∧ m ≤ n
  · obtain ⟨b, rfl⟩ := Int.eq_ofNat_of_zero_le (show 0 ≤ n by omega)
    obtain ⟨a, rfl⟩ := Int.eq_ofNat_of_zero_le (show 0 ≤ m by omega)
    rw [dT hc] at hM
    by_cases c1 : a = 0
    · have hP : proveTP r a b j = ([], 0, j) := by unfold proveTP; rw [if_pos hc, if_pos (.inl (by omega))]
      subst c1
      have hM' : ∀ σ, ev 83 [.int .i64 0, .int .i64 b] σ = some (.bool true, σ) := hM
      have hP' : proveTP r 0 b j = ([], 0, j) := hP
      simp (maxSteps := 4000000) [List.getElem?_cons_zero, List.getElem?_cons_succ, hM', hP', hs, Tryz.results77]
    · by_cases c2 : a = b
      · have hP : proveTP r a b j = ([], 0, j) := by unfold proveTP; rw [if_pos hc, if_pos (.inr (by omega))]
        subst c2
        simp (maxSteps := 4000000) [List.getElem?_cons_zero, List.getElem?_cons_succ, hM, c1, hP, hs, Tryz.results77]
      · have hP : proveTP r a b j = hashesP r (subN a 0 b true) j := by unfold proveTP; rw [if_pos hc, if_neg (by omega)]; rfl
        have hp := subproof_eq b a 0 true (by omega) (by omega) (by omega)
        have hp' : ∀ σ, ev 84 [.int .i64 a, .agg [.int .i64 0, .int .i64 b], .bool true] σ = some (.sl (.ex 113 2) ((subN a 0 b true).map spanA), σ) := hp
        have hh := hashes_eq h hB (subN a 0 b true) (by have := subN_le b a 0 true; omega) (fun x hx => subN_ok b a 0 B true (by omega) (algn_zero b) (by omega) x hx) j
        rw [hP]
        generalize (subN a 0 b true).map spanA = Ls at *
        obtain ⟨z, hz⟩ : ∃ z, hashesP r (subN a 0 b true) j = z := ⟨_, rfl⟩
        rw [hz] at hh ⊢
        generalize hs z.1 = Z at *
        simp (maxSteps := 4000000) [List.getElem?_cons_zero, List.getElem?_cons_succ, hM, c1, c2, hp', hh, hcap, Tryz.results77]
  · have hP : proveTP r m n j = ([], 6, j) := by unfold proveTP; rw [if_neg hc]
    rw [dF hc] at hM
    simp (maxSteps := 4000000) [List.getElem?_cons_zero, List.getElem?_cons_succ, hM, hP, hs, Tryz.results77]
end Go.Proofs.Tryz.Ai
end
section
/- The same by a bound method (printed by genfb.py out of TL6 to TL9). -/
namespace Go.Proofs.Tryz.Ai
open Go Go.AI Go.Proofs
set_option maxHeartbeats 1000000
set_option linter.unusedVariables false

structure RdOkB (r : Rd) (A B : Nat) : Prop where
  lt : r.g < 100000
  pers : r.cap.map dem = r.cap ∧ ∀ c ∈ r.cap, AI.pers c = true
  run : ∀ j v k : Nat, v ≤ 20 → (k + 1) * 2 ^ v ≤ B → ev r.g (r.cap ++ [.int .i64 (v : Int), .int .i64 (k : Int)]) (r.S j) = some (.tup [.sl .sh ((r.R j v k).1.map .u8), .int .i64 (r.R j v k).2.1], r.S (r.R j v k).2.2)
  len : ∀ j v k, (r.R j v k).1.length ≤ 2 ^ 20
  bad : ∀ j v k, -2 ^ 40 ≤ (r.R j v k).2.1 ∧ (r.R j v k).2.1 ≤ 2 ^ 40
  low : ∀ i j, lowS (r.S i) (r.S j)
  eq : ∀ j, (r.S j).length = A
theorem hashP_lenB {r : Rd} {A B : Nat} (h : RdOkB r A B) (n : Nat) : ∀ f j, (hashP r f n j).1.length ≤ 2 ^ 20 ∧ -2 ^ 40 ≤ (hashP r f n j).2.1 ∧ (hashP r f n j).2.1 ≤ 2 ^ 40 := by
  induction n using Nat.strongRecOn with
  | _ n ih =>
    intro f j
    rw [hashP]
    split
    · exact ⟨h.len _ _ _, h.bad _ _ _⟩
    · split
      · rename_i h2
        have hs := halfN_spec h2
        dsimp only
        split
        · exact ⟨by simp, (ih _ hs.2.1 _ _).2⟩
        · split
          · exact ⟨by simp, (ih _ (by omega) _ _).2⟩
          · exact ⟨by rw [nodeB_len]; omega, by simp, by simp⟩
      · exact ⟨by simp, by simp, by simp⟩
theorem hash_eqB {r : Rd} {A B : Nat} (h : RdOkB r A B) (hB : B ≤ 2 ^ 30) (n : Nat) : ∀ f j, 1 ≤ n → algn f n → f + n ≤ B → ev 50 [.int .i64 f, .int .i64 n, .fb r.g r.cap] (r.S j) = some (.tup [.sl .sh ((hashP r f n j).1.map .u8), .int .i64 (hashP r f n j).2.1], r.S (hashP r f n j).2.2) := by
  induction n using Nat.strongRecOn with
  | _ n ih =>
    intro f j h1 ha hb
    have hL := level_eq n (by omega)
    have hcap := h.pers.1
    have hlt := h.lt
    refine EV_post rfl Tryz.func50 rfl (by simp [Tryz.ntmps50]) (by kernel_rfl) (by kernel_rfl) ?_
    cases hl : lgN n with
    | some v =>
      rw [hl] at hL
      simp only at hL
      have hv := lgN_some hl
      have hP : hashP r f n j = r.R j v (f / n) := by rw [hashP, hl]
      have hrun := h.run j v (f / n) hv.1 (by
        have e : f = f / n * n := by
          have := algn_pow (f := f) (l := v) (by rw [hv.2]; exact ha)
          rw [hv.2] at this; exact this
        rw [hv.2, Nat.add_mul, ← e, Nat.one_mul]; exact hb)
      have hlow := h.low j (r.R j v (f / n)).2.2
      have heq := h.eq (r.R j v (f / n)).2.2
      have heq0 := h.eq j
      rw [hP]
      obtain ⟨x, hx⟩ : ∃ x, r.R j v (f / n) = x := ⟨_, rfl⟩
      rw [hx] at hrun hlow heq ⊢
      have hn0 : ¬ n = 0 := by omega
      have hd : ((f : Int).tdiv n) = ((f / n : Nat) : Int) := by rw [Int.tdiv_eq_ediv_of_nonneg (by omega)]; simp
      have hkf := Nat.div_le_self f n
      obtain ⟨k, hk⟩ : ∃ k, f / n = k := ⟨_, rfl⟩
      rw [hk] at hd hrun hkf
      have w1 : IntKind.i64.wrap (k : Int) = (k : Int) := wrap64 (by omega)
      have hv0 : (0 : Int) ≤ (v : Int) := by omega
      simp (maxSteps := 4000000) [List.getElem?_cons_zero, List.getElem?_cons_succ, hL, hv0, hn0, hd, w1, hlt, hcap, hrun, Tryz.results50]
      rw [need_of hlow, List.take_of_length_le (by rw [heq, heq0]; exact Nat.le_refl _)]
    | none =>
      rw [hl] at hL
      simp only at hL
      have h2 : 2 ≤ n := by
        rcases Nat.lt_or_ge n 2 with q | q
        · have : n = 1 := by omega
          subst this
          exact absurd rfl (lgN_none hl (show 0 ≤ 20 by omega))
        · exact q
      have hs := halfN_spec h2
      obtain ⟨a1, a2⟩ := algn_half h2 ha
      have hH := half_eq n h2 (by omega)
      have i1 := ih _ hs.2.1 f j hs.1 a1 (by omega)
      have hlen1 := hashP_lenB h (halfN n) f j
      have i2 := ih (n - halfN n) (by omega) (f + halfN n) (hashP r f (halfN n) j).2.2 (by omega) a2 (by omega)
      have hlen2 := hashP_lenB h (n - halfN n) (f + halfN n) (hashP r f (halfN n) j).2.2
      have hP : hashP r f n j = if (hashP r f (halfN n) j).2.1 ≠ 0 then ([], (hashP r f (halfN n) j).2.1, (hashP r f (halfN n) j).2.2) else
          if (hashP r (f + halfN n) (n - halfN n) (hashP r f (halfN n) j).2.2).2.1 ≠ 0 then ([], (hashP r (f + halfN n) (n - halfN n) (hashP r f (halfN n) j).2.2).2.1, (hashP r (f + halfN n) (n - halfN n) (hashP r f (halfN n) j).2.2).2.2)
          else (nodeB (hashP r f (halfN n) j).1 (hashP r (f + halfN n) (n - halfN n) (hashP r f (halfN n) j).2.2).1, 0, (hashP r (f + halfN n) (n - halfN n) (hashP r f (halfN n) j).2.2).2.2) := by
        rw [hashP, hl]
        simp only
        rw [dif_pos h2]
      rw [hP]
      obtain ⟨x, hx⟩ : ∃ x, hashP r f (halfN n) j = x := ⟨_, rfl⟩
      rw [hx] at i1 i2 hlen1 hlen2 ⊢
      obtain ⟨y, hy⟩ : ∃ y, hashP r (f + halfN n) (n - halfN n) x.2.2 = y := ⟨_, rfl⟩
      rw [hy] at i2 hlen2 ⊢
      obtain ⟨t, ht⟩ : ∃ t, halfN n = t := ⟨_, rfl⟩
      rw [ht] at hH i1 i2 hs
      have w1 : IntKind.i64.wrap ((f : Int) + t) = ((f + t : Nat) : Int) := by rw [wrap64 (by omega)]; omega
      have w2 : IntKind.i64.wrap ((n : Int) - t) = ((n - t : Nat) : Int) := by rw [wrap64 (by omega)]; omega
      obtain ⟨ft, hft⟩ : ∃ z, f + t = z := ⟨_, rfl⟩
      obtain ⟨nt, hnt⟩ : ∃ z, n - t = z := ⟨_, rfl⟩
      rw [hft] at w1 i2
      rw [hnt] at w2 i2
      have hl1 := h.low j x.2.2
      have hl2 := h.low j y.2.2
      have he0 := h.eq j
      have he1 := h.eq x.2.2
      have he2 := h.eq y.2.2
      have hN := Node_eq .sh .sh x.1 y.1 (by omega) (by omega)
      by_cases c1 : x.2.1 = 0
      · rw [if_neg (by simpa using c1)]
        by_cases c2 : y.2.1 = 0
        · rw [if_neg (by simpa using c2)]
          simp (maxSteps := 4000000) [List.getElem?_cons_zero, List.getElem?_cons_succ, hL, hH, hlt, hcap, i1, i2, w1, w2, c1, c2, hN, Tryz.results50]
          rw [need_of hl2, List.take_of_length_le (by rw [he2, he0]; exact Nat.le_refl _)]
        · rw [if_pos c2]
          simp (maxSteps := 4000000) [List.getElem?_cons_zero, List.getElem?_cons_succ, hL, hH, hlt, hcap, i1, i2, w1, w2, c1, c2, Tryz.results50]
          rw [need_of hl2, List.take_of_length_le (by rw [he2, he0]; exact Nat.le_refl _)]
      · rw [if_pos c1]
        simp (maxSteps := 4000000) [List.getElem?_cons_zero, List.getElem?_cons_succ, hL, hH, hlt, hcap, i1, c1, Tryz.results50]
        rw [need_of hl1, List.take_of_length_le (by rw [he1, he0]; exact Nat.le_refl _)]
theorem hashes_eqB {r : Rd} {A B : Nat} (h : RdOkB r A B) (hB : B ≤ 2 ^ 30) (l : List (Nat × Nat)) (hl : l.length ≤ 2 ^ 30) (hsp : ∀ x ∈ l, 1 ≤ x.2 ∧ algn x.1 x.2 ∧ x.1 + x.2 ≤ B) (j : Nat) :
    ev 110 [.sl .sh (l.map spanA), .fb r.g r.cap] (r.S j) = some (.tup [.sl .sh (hs (hashesP r l j).1), .int .i64 (hashesP r l j).2.1], r.S (hashesP r l j).2.2) := by
  obtain ⟨goal, hgoal⟩ : ∃ g, hashesP r l j = g := ⟨_, rfl⟩
  rw [hgoal]
  have hcap := h.pers.1
  refine EV_post rfl Tryz.func110 rfl (by simp [Tryz.ntmps110]) (by kernel_rfl) (by kernel_rfl) ?_
  simp (maxSteps := 4000000) [List.getElem?_cons_zero, List.getElem?_cons_succ, hcap]
  refine Post_loop (I := fun x : HsSt => ⟨[(1, .fb r.g r.cap), (6, .sl (.ex 35 1) (hs x.O)), (11, .sl .sh (l.map spanA)), (12, .int .i64 l.length), (13, .int .i64 x.i)], [], r.S x.j⟩) (Pr := fun x => x.i ≤ l.length ∧ x.O.length ≤ x.i ∧ joinK x.O (hashesP r (l.drop x.i) x.j) = goal) (μ := fun x => l.length - x.i) (a := ⟨0, [], j⟩) (by simp [hs]) ⟨Nat.zero_le _, by simp, by rw [← hgoal]; exact joinK_nil r l j⟩ ?_
  rintro ⟨i, O, j⟩ ⟨hi, hO, hto⟩
  simp only at hi hO hto ⊢
  by_cases hc : i < l.length
  · obtain ⟨x, hx⟩ : ∃ x, l[i]? = some x := ⟨_, List.getElem?_eq_getElem hc⟩
    have hxs : (l.map spanA)[i]? = some (.agg [.int .i64 x.1, .int .i64 x.2]) := by rw [List.getElem?_map, hx]; rfl
    have hd : l.drop i = x :: l.drop (i + 1) := by rw [List.drop_eq_getElem_cons hc]; congr 1; exact (List.getElem?_eq_some_iff.1 hx).2
    obtain ⟨x1, x2, x3⟩ := hsp x (List.mem_of_getElem? hx)
    have hH := hash_eqB h hB x.2 x.1 j x1 x2 x3
    have hlen := hashP_lenB h x.2 x.1 j
    rw [hd, joinK_cons] at hto
    obtain ⟨z, hz⟩ : ∃ z, hashP r x.1 x.2 j = z := ⟨_, rfl⟩
    rw [hz] at hH hlen hto
    have w1 : IntKind.i64.wrap ((i : Int) + 1) = (i : Int) + 1 := wrap64 (by omega)
    have hf := tfresh_eq .sh z.1 (by omega)
    have hn1 : O.length + 1 ≤ most := by unfold most; omega
    have hOl : (hs O).length = O.length := by simp [hs]
    generalize hLs : l.map spanA = Ls at *
    by_cases c1 : z.2.1 = 0
    · rw [if_neg (by simpa using c1)] at hto
      obtain ⟨X, hX⟩ : ∃ X, hs O = X := ⟨_, rfl⟩
      rw [hX] at hOl ⊢
      simp (maxSteps := 4000000) [List.getElem?_cons_zero, List.getElem?_cons_succ, -getElem?_pos, hc, hxs, hcap, hH, c1, hf, w1, hOl, need_of hn1]
      repeat (rw [need_of]; rotate_left; (· (try unfold most); omega); simp (maxSteps := 4000000) [List.getElem?_cons_zero, List.getElem?_cons_succ, -getElem?_pos, hc, hxs, hcap, hH, c1, hf, w1, hOl, need_of hn1])
      exact ⟨⟨i + 1, O ++ [z.1], z.2.2⟩, ⟨by show i + 1 ≤ l.length; omega, by show (O ++ [z.1]).length ≤ i + 1; simp; omega, hto⟩, by show l.length - (i + 1) < l.length - i; omega, ⟨by rw [← hX]; simp [hs], by simp⟩, rfl⟩
    · rw [if_pos c1] at hto
      subst hto
      simp (maxSteps := 4000000) [List.getElem?_cons_zero, List.getElem?_cons_succ, -getElem?_pos, hc, hxs, hcap, hH, c1, hs, Tryz.results110]
  · have hd : l.drop i = [] := List.drop_of_length_le (by omega)
    rw [hd] at hto
    simp [joinK, hashesP] at hto
    subst hto
    simp (maxSteps := 4000000) [List.getElem?_cons_zero, List.getElem?_cons_succ, hc, Tryz.results110]
theorem Root_eqB {r : Rd} {A B : Nat} (h : RdOkB r A B) (hB : B ≤ 2 ^ 30) (n : Int) (hn : n ≤ B) (j : Nat) :
    ev 75 [.int .i64 n, .fb r.g r.cap] (r.S j) = some (.tup [.sl .sh ((rootP r n j).1.map .u8), .int .i64 (rootP r n j).2.1], r.S (rootP r n j).2.2) := by
  have hcap := h.pers.1
  refine EV_post rfl Tryz.func75 rfl (by simp [Tryz.ntmps75]) (by kernel_rfl) (by kernel_rfl) ?_
  by_cases h0 : n < 0
  · have hP : rootP r n j = ([], 6, j) := by unfold rootP; rw [if_pos (.inl h0)]
    simp (maxSteps := 4000000) [List.getElem?_cons_zero, List.getElem?_cons_succ, h0, hP, Tryz.results75]
  · by_cases h1 : 1048576 < n
    · have hP : rootP r n j = ([], 6, j) := by unfold rootP; rw [if_pos (.inr h1)]
      simp (maxSteps := 4000000) [List.getElem?_cons_zero, List.getElem?_cons_succ, h0, h1, hP, Tryz.results75]
    · obtain ⟨m, rfl⟩ := Int.eq_ofNat_of_zero_le (show 0 ≤ n by omega)
      by_cases h2 : m = 0
      · subst h2
        have hS := SHA256_eq .sh [] (by simp)
        have hS' : ∀ σ, ev 70 [.sl .sh []] σ = some (.sl (.ex 5 1) ((sha256 []).map .u8), σ) := fun σ => hS σ
        have hP : rootP r 0 j = (sha256 [], 0, j) := rfl
        have hP' : rootP r ((0 : Nat) : Int) j = (sha256 [], 0, j) := rfl
        simp (maxSteps := 4000000) [List.getElem?_cons_zero, List.getElem?_cons_succ, hS', hP, hP', Tryz.results75]
      · have hP : rootP r (m : Int) j = if (hashP r 0 m j).2.1 ≠ 0 then ([], (hashP r 0 m j).2.1, (hashP r 0 m j).2.2) else hashP r 0 m j := by
          unfold rootP; rw [if_neg (by omega), if_neg (by omega)]; rfl
        have hH := hash_eqB h hB m 0 j (by omega) (algn_zero m) (by omega)
        have hH' : ev 50 [.int .i64 0, .int .i64 m, .fb r.g r.cap] (r.S j) = some (.tup [.sl .sh ((hashP r 0 m j).1.map .u8), .int .i64 (hashP r 0 m j).2.1], r.S (hashP r 0 m j).2.2) := hH
        have hlen := hashP_lenB h m 0 j
        rw [hP]
        obtain ⟨z, hz⟩ : ∃ z, hashP r 0 m j = z := ⟨_, rfl⟩
        rw [hz] at hH' hlen ⊢
        have hf := tfresh_eq .sh z.1 (by omega)
        have h1' : ¬ 1048576 < m := by omega
        by_cases c1 : z.2.1 = 0
        · rw [if_neg (by simpa using c1)]
          simp (maxSteps := 4000000) [List.getElem?_cons_zero, List.getElem?_cons_succ, h1', h2, hcap, hH', c1, hf, Tryz.results75]
        · rw [if_pos c1]
          simp (maxSteps := 4000000) [List.getElem?_cons_zero, List.getElem?_cons_succ, h1', h2, hcap, hH', c1, Tryz.results75]
theorem Prove_eqB {r : Rd} {A B : Nat} (h : RdOkB r A B) (hB : B ≤ 2 ^ 30) (i n : Int) (hn : n ≤ B) (j : Nat) :
    ev 76 [.int .i64 i, .int .i64 n, .fb r.g r.cap] (r.S j) = some (.tup [.sl .sh (hs (proveP r i n j).1), .int .i64 (proveP r i n j).2.1], r.S (proveP r i n j).2.2) := by
  have hcap := h.pers.1
  have hM := mayRecord_eq i n
  refine EV_post rfl Tryz.func76 rfl (by simp [Tryz.ntmps76]) (by kernel_rfl) (by kernel_rfl) ?_
  by_cases hc : 1 ≤ n ∧ n ≤ 1048576 ∧ 0 ≤ i ∧ i < n
  · obtain ⟨m, rfl⟩ := Int.eq_ofNat_of_zero_le (show 0 ≤ n by omega)
    obtain ⟨k, rfl⟩ := Int.eq_ofNat_of_zero_le (show 0 ≤ i by omega)
    have hP : proveP r k m j = hashesP r (pathN k 0 m) j := by unfold proveP; rw [if_pos hc]; rfl
    have hp := path_eq m k 0 (by omega) (by omega) (by omega)
    have hp' : ∀ σ, ev 80 [.int .i64 k, .agg [.int .i64 0, .int .i64 m]] σ = some (.sl (.ex 113 2) ((pathN k 0 m).map spanA), σ) := hp
    have hh := hashes_eqB h hB (pathN k 0 m) (by have := pathN_le m k 0; omega) (fun x hx => pathN_ok m k 0 B (algn_zero m) (by omega) x hx) j
    rw [dT hc] at hM
    rw [hP]
    generalize (pathN k 0 m).map spanA = Ls at *
    obtain ⟨z, hz⟩ : ∃ z, hashesP r (pathN k 0 m) j = z := ⟨_, rfl⟩
    rw [hz] at hh ⊢
    generalize hs z.1 = Z at *
    simp (maxSteps := 4000000) [List.getElem?_cons_zero, List.getElem?_cons_succ, hM, hp', hh, hcap, Tryz.results76]
  · have hP : proveP r i n j = ([], 6, j) := by unfold proveP; rw [if_neg hc]
    rw [dF hc] at hM
    simp (maxSteps := 4000000) [List.getElem?_cons_zero, List.getElem?_cons_succ, hM, hP, hs, Tryz.results76]
theorem ProveTree_eqB {r : Rd} {A B : Nat} (h : RdOkB r A B) (hB : B ≤ 2 ^ 30) (m n : Int) (hn : n ≤ B) (j : Nat) :
    ev 77 [.int .i64 m, .int .i64 n, .fb r.g r.cap] (r.S j) = some (.tup [.sl .sh (hs (proveTP r m n j).1), .int .i64 (proveTP r m n j).2.1], r.S (proveTP r m n j).2.2) := by
  have hcap := h.pers.1
  have hM := mayTree_eq m n
  refine EV_post rfl Tryz.func77 rfl (by simp [Tryz.ntmps77]) (by kernel_rfl) (by kernel_rfl) ?_
  by_cases hc : 0 ≤ n ∧ n ≤ 1048576 ∧ 0 ≤ m ∧ m ≤ n
  · obtain ⟨b, rfl⟩ := Int.eq_ofNat_of_zero_le (show 0 ≤ n by omega)
    obtain ⟨a, rfl⟩ := Int.eq_ofNat_of_zero_le (show 0 ≤ m by omega)
    rw [dT hc] at hM
    by_cases c1 : a = 0
    · have hP : proveTP r a b j = ([], 0, j) := by unfold proveTP; rw [if_pos hc, if_pos (.inl (by omega))]
      subst c1
      have hM' : ∀ σ, ev 83 [.int .i64 0, .int .i64 b] σ = some (.bool true, σ) := hM
      have hP' : proveTP r 0 b j = ([], 0, j) := hP
      simp (maxSteps := 4000000) [List.getElem?_cons_zero, List.getElem?_cons_succ, hM', hP', hs, Tryz.results77]
    · by_cases c2 : a = b
      · have hP : proveTP r a b j = ([], 0, j) := by unfold proveTP; rw [if_pos hc, if_pos (.inr (by omega))]
        subst c2
        simp (maxSteps := 4000000) [List.getElem?_cons_zero, List.getElem?_cons_succ, hM, c1, hP, hs, Tryz.results77]
      · have hP : proveTP r a b j = hashesP r (subN a 0 b true) j := by unfold proveTP; rw [if_pos hc, if_neg (by omega)]; rfl
        have hp := subproof_eq b a 0 true (by omega) (by omega) (by omega)
        have hp' : ∀ σ, ev 84 [.int .i64 a, .agg [.int .i64 0, .int .i64 b], .bool true] σ = some (.sl (.ex 113 2) ((subN a 0 b true).map spanA), σ) := hp
        have hh := hashes_eqB h hB (subN a 0 b true) (by have := subN_le b a 0 true; omega) (fun x hx => subN_ok b a 0 B true (by omega) (algn_zero b) (by omega) x hx) j
        rw [hP]
        generalize (subN a 0 b true).map spanA = Ls at *
        obtain ⟨z, hz⟩ : ∃ z, hashesP r (subN a 0 b true) j = z := ⟨_, rfl⟩
        rw [hz] at hh ⊢
        generalize hs z.1 = Z at *
        simp (maxSteps := 4000000) [List.getElem?_cons_zero, List.getElem?_cons_succ, hM, c1, c2, hp', hh, hcap, Tryz.results77]
  · have hP : proveTP r m n j = ([], 6, j) := by unfold proveTP; rw [if_neg hc]
    rw [dF hc] at hM
    simp (maxSteps := 4000000) [List.getElem?_cons_zero, List.getElem?_cons_succ, hM, hP, hs, Tryz.results77]
end Go.Proofs.Tryz.Ai
end
section
/- A log's roots and proofs. -/
namespace Go.Proofs.Tryz.Ai
open Go Go.AI Go.Proofs
set_option maxHeartbeats 1000000
set_option linter.unusedVariables false

/-- the reader that a log is -/
def logRd (s : List (List AV)) (p : Nat) (rows : List (List (List UInt8))) : Rd where
  g := 11
  cap := [logP p]
  S := fun _ => s
  R := fun j v k => (((lookR rows v k).getD []), (if (lookR rows v k).isSome then 0 else 6), j)
theorem logRd_ok {s : List (List AV)} {p q : Nat} {rows : List (List (List UInt8))} (h : LogAt s p q rows) (hok : RowsOk rows) (B : Nat) : RdOkB (logRd s p rows) s.length B := by
  refine ⟨by show 11 < 100000; decide, ⟨rfl, by simp [logRd, logP, AI.pers]⟩, fun j v k _ _ => ?_, fun j v k => ?_, fun j v k => ?_, fun i j => by simp [logRd], fun j => rfl⟩
  · have := Hash_eq s p q rows h hok v k
    simp only [logRd]
    cases hl : lookR rows (v : Int) (k : Int) with
    | none => rw [hl] at this; simpa [lookA] using this
    | some x => rw [hl] at this; simpa [lookA] using this
  · simp only [logRd]
    cases hl : lookR rows (v : Int) (k : Int) with
    | none => simp
    | some x =>
      unfold lookR at hl
      split at hl
      · cases hr : rows[(v : Int).toNat]? with
        | none => rw [hr] at hl; cases hl
        | some r =>
          rw [hr] at hl
          exact (hok.2 r (List.mem_of_getElem? hr)).2 x (List.mem_of_getElem? hl)
      · cases hl
  · simp only [logRd]; split <;> omega
end Go.Proofs.Tryz.Ai
end
section
/- What readers tell of a log: roots and proofs, plain. -/
namespace Go.Proofs.Tryz.Ai
open Go Go.AI Go.Proofs
set_option maxHeartbeats 1000000
set_option linter.unusedVariables false

/-- a reader tells the whole trees' hashes, or an error -/
def Tells (r : Rd) (L : Nat → List UInt8) (N : Nat) (bad : Option Int) : Prop :=
  ∀ j v k : Nat, j < 2 ^ 62 → v ≤ 20 → (k + 1) * 2 ^ v ≤ N → ∃ j', j' ≤ j + 1 ∧ (r.R j v k = (wholeT nodeB L v k, 0, j') ∨ ∃ e, bad = some e ∧ e ≠ 0 ∧ r.R j v k = ([], e, j'))
theorem hashP_tells {r : Rd} {L : Nat → List UInt8} {N : Nat} {bad : Option Int} (h : Tells r L N bad) (n : Nat) : ∀ f j, 1 ≤ n → algn f n → f + n ≤ N → j + n ≤ 2 ^ 62 →
    ∃ j', j' ≤ j + n ∧ (hashP r f n j = (spanT nodeB L f n, 0, j') ∨ ∃ e, bad = some e ∧ e ≠ 0 ∧ hashP r f n j = ([], e, j')) := by
  induction n using Nat.strongRecOn with
  | _ n ih =>
    intro f j h1 ha hb hj
    rw [hashP]
    cases hl : lgN n with
    | some v =>
      have hv := lgN_some hl
      have e : f = f / n * n := by
        have := algn_pow (f := f) (l := v) (by rw [hv.2]; exact ha)
        rw [hv.2] at this; exact this
      have hk : (f / n + 1) * 2 ^ v ≤ N := by rw [hv.2, Nat.add_mul, ← e, Nat.one_mul]; exact hb
      have hs : spanT nodeB L f n = wholeT nodeB L v (f / n) := by
        rw [← span_whole, hv.2, ← e]
      simp only
      rw [hs]
      obtain ⟨j', hj', hx⟩ := h j v (f / n) (by omega) hv.1 hk
      exact ⟨j', by omega, hx⟩
    | none =>
      have h2 : 2 ≤ n := by
        rcases Nat.lt_or_ge n 2 with q | q
        · have : n = 1 := by omega
          subst this
          exact absurd rfl (lgN_none hl (show 0 ≤ 20 by omega))
        · exact q
      have hs := halfN_spec h2
      obtain ⟨a1, a2⟩ := algn_half h2 ha
      simp only
      rw [dif_pos h2]
      obtain ⟨j1, hj1, e1 | ⟨e, he, he0, e1⟩⟩ := ih _ hs.2.1 f j hs.1 a1 (by omega) (by omega)
      · obtain ⟨j2, hj2, e2 | ⟨e, he, he0, e2⟩⟩ := ih (n - halfN n) (by omega) (f + halfN n) j1 (by omega) a2 (by omega) (by omega)
        · refine ⟨j2, by omega, .inl ?_⟩
          rw [e1]
          simp only [ne_eq, not_true_eq_false, if_false, e2]
          rw [spanT.eq_def nodeB L f n, dif_pos h2]
        · refine ⟨j2, by omega, .inr ⟨e, he, he0, ?_⟩⟩
          rw [e1]
          simp only [ne_eq, not_true_eq_false, if_false, e2]
          rw [if_pos he0]
      · refine ⟨j1, by omega, .inr ⟨e, he, he0, ?_⟩⟩
        rw [e1]
        simp only [ne_eq]
        rw [if_pos he0]
def spanX (L : Nat → List UInt8) (x : Nat × Nat) : List UInt8 := spanT nodeB L x.1 x.2
theorem hashesP_tells {r : Rd} {L : Nat → List UInt8} {N : Nat} {bad : Option Int} (h : Tells r L N bad) : ∀ (l : List (Nat × Nat)) (j : Nat), (∀ x ∈ l, spanOk N x) → j + l.length * N ≤ 2 ^ 62 →
    ∃ j', hashesP r l j = (l.map (spanX L), 0, j') ∨ ∃ e, bad = some e ∧ e ≠ 0 ∧ hashesP r l j = ([], e, j') := by
  intro l
  induction l with
  | nil => intro j _ _; exact ⟨j, .inl rfl⟩
  | cons x l ih =>
    intro j hx hj
    rw [hashesP]
    obtain ⟨x1, x2, x3⟩ := hx x (by simp)
    rw [List.length_cons, Nat.add_mul, Nat.one_mul] at hj
    obtain ⟨M, hM⟩ : ∃ M, l.length * N = M := ⟨_, rfl⟩
    rw [hM] at hj
    obtain ⟨j1, hj1, e1 | ⟨e, he, he0, e1⟩⟩ := hashP_tells h x.2 x.1 j x1 x2 x3 (by omega)
    · obtain ⟨j2, e2 | ⟨e, he, he0, e2⟩⟩ := ih j1 (fun y hy => hx y (by simp [hy])) (by omega)
      · refine ⟨j2, .inl ?_⟩
        simp only [e1, e2, ne_eq, not_true_eq_false, if_false]; rfl
      · refine ⟨j2, .inr ⟨e, he, he0, ?_⟩⟩
        simp only [e1, e2, ne_eq, not_true_eq_false, if_false]
        rw [if_pos he0]
    · refine ⟨j1, .inr ⟨e, he, he0, ?_⟩⟩
      simp only [e1, ne_eq]
      rw [if_pos he0]
/-- roots and proofs, as the document has them -/
def rootQ (L : Nat → List UInt8) (n : Int) : List UInt8 × Int := if n < 0 then ([], 6) else if n = 0 then (sha256 [], 0) else (spanT nodeB L 0 n.toNat, 0)
def proveQ (L : Nat → List UInt8) (i n : Int) : List (List UInt8) × Int := if 1 ≤ n ∧ 0 ≤ i ∧ i < n then ((pathN i.toNat 0 n.toNat).map (spanX L), 0) else ([], 6)
def proveTQ (L : Nat → List UInt8) (m n : Int) : List (List UInt8) × Int := if 0 ≤ n ∧ 0 ≤ m ∧ m ≤ n then (if m = 0 ∨ m = n then ([], 0) else ((subN m.toNat 0 n.toNat true).map (spanX L), 0)) else ([], 6)
theorem spans_le {N k : Nat} (hN : N ≤ 1048576) (hk : k ≤ 1048577) : 0 + k * N ≤ 2 ^ 62 := by
  have := Nat.mul_le_mul hk hN
  omega
section
variable {r : Rd} {L : Nat → List UInt8} {N : Nat} {bad : Option Int}
theorem rootP_tells (h : Tells r L N bad) (hN : N ≤ 1048576) (n : Int) (hn : n ≤ N) :
    ∃ j', rootP r n 0 = ((rootQ L n).1, (rootQ L n).2, j') ∨ ∃ e, bad = some e ∧ e ≠ 0 ∧ rootP r n 0 = ([], e, j') := by
  unfold rootP rootQ
  by_cases h0 : n < 0
  · rw [if_pos (.inl h0), if_pos h0]; exact ⟨0, .inl rfl⟩
  · rw [if_neg (by omega), if_neg h0]
    by_cases h1 : n = 0
    · rw [if_pos h1, if_pos h1]; exact ⟨0, .inl rfl⟩
    · rw [if_neg h1, if_neg h1]
      obtain ⟨m, rfl⟩ := Int.eq_ofNat_of_zero_le (show 0 ≤ n by omega)
      obtain ⟨j1, _, e1 | ⟨e, he, he0, e1⟩⟩ := hashP_tells h m 0 0 (by omega) (algn_zero m) (by omega) (by omega)
      · refine ⟨j1, .inl ?_⟩
        simp only [Int.toNat_natCast, e1, ne_eq, not_true_eq_false, if_false]
      · refine ⟨j1, .inr ⟨e, he, he0, ?_⟩⟩
        simp only [Int.toNat_natCast, e1, ne_eq]
        rw [if_pos he0]
theorem proveP_tells (h : Tells r L N bad) (hN : N ≤ 1048576) (i n : Int) (hn : n ≤ N) :
    ∃ j', proveP r i n 0 = ((proveQ L i n).1, (proveQ L i n).2, j') ∨ ∃ e, bad = some e ∧ e ≠ 0 ∧ proveP r i n 0 = ([], e, j') := by
  unfold proveP proveQ
  by_cases hc : 1 ≤ n ∧ 0 ≤ i ∧ i < n
  · rw [if_pos (by omega), if_pos hc]
    obtain ⟨j1, e1 | ⟨e, he, he0, e1⟩⟩ := hashesP_tells h (pathN i.toNat 0 n.toNat) 0 (fun x hx => pathN_ok _ _ _ _ (algn_zero _) (by omega) x hx) (spans_le hN (by have := pathN_le n.toNat i.toNat 0; omega))
    · exact ⟨j1, .inl e1⟩
    · exact ⟨j1, .inr ⟨e, he, he0, e1⟩⟩
  · rw [if_neg (by omega), if_neg hc]; exact ⟨0, .inl rfl⟩
theorem proveTP_tells (h : Tells r L N bad) (hN : N ≤ 1048576) (m n : Int) (hn : n ≤ N) :
    ∃ j', proveTP r m n 0 = ((proveTQ L m n).1, (proveTQ L m n).2, j') ∨ ∃ e, bad = some e ∧ e ≠ 0 ∧ proveTP r m n 0 = ([], e, j') := by
  unfold proveTP proveTQ
  by_cases hc : 0 ≤ n ∧ 0 ≤ m ∧ m ≤ n
  · rw [if_pos (by omega), if_pos hc]
    split
    · exact ⟨0, .inl rfl⟩
    · obtain ⟨j1, e1 | ⟨e, he, he0, e1⟩⟩ := hashesP_tells h (subN m.toNat 0 n.toNat true) 0 (fun x hx => subN_ok _ _ _ _ _ (by omega) (algn_zero _) (by omega) x hx) (spans_le hN (by have := subN_le n.toNat m.toNat 0 true; omega))
      · exact ⟨j1, .inl e1⟩
      · exact ⟨j1, .inr ⟨e, he, he0, e1⟩⟩
  · rw [if_neg (by omega), if_neg hc]; exact ⟨0, .inl rfl⟩
end
theorem lookR_up (L : Nat → List UInt8) (N : Nat) (v k : Int) : lookR (upT nodeB L 0 N) v k = if 0 ≤ v ∧ 0 ≤ k ∧ (k.toNat + 1) * 2 ^ v.toNat ≤ N then some (wholeT nodeB L v.toNat k.toNat) else none := by
  unfold lookR
  by_cases hvk : 0 ≤ v ∧ 0 ≤ k
  · rw [if_pos hvk, upT_get]
    have hp : 0 < 2 ^ v.toNat := Nat.two_pow_pos _
    by_cases hk : (k.toNat + 1) * 2 ^ v.toNat ≤ N
    · have hlt := (div_le_of hp).1 hk
      rw [if_pos (.inr (by omega)), if_pos ⟨hvk.1, hvk.2, hk⟩]
      simp only [Option.bind_some, Nat.zero_add]
      exact rowT_get hlt
    · have hge : N / 2 ^ v.toNat ≤ k.toNat := by
        rcases Nat.lt_or_ge k.toNat (N / 2 ^ v.toNat) with q | q
        · exact absurd ((div_le_of hp).2 q) hk
        · exact q
      rw [if_neg (c := 0 ≤ v ∧ 0 ≤ k ∧ _) (fun h => hk h.2.2)]
      split
      · simp only [Option.bind_some]
        rw [List.getElem?_eq_none]
        rw [rowT_len]; exact hge
      · rfl
  · rw [if_neg hvk, if_neg (fun h => hvk ⟨h.1, h.2.1⟩)]
end Go.Proofs.Tryz.Ai
end
section
/- A log's hashes, roots and proofs. -/
namespace Go.Proofs.Tryz.Ai
open Go Go.AI Go.Proofs
set_option maxHeartbeats 1000000
set_option linter.unusedVariables false

/-- a log of such leaves -/
structure LogOf (s : List (List AV)) (p q : Nat) (LB : List (List UInt8)) : Prop where
  at' : LogAt s p q (rowsB LB)
  len : LB.length ≤ 1048576
  small : ∀ x ∈ LB, x.length = 32
theorem LogOf.up {s : List (List AV)} {p q : Nat} {LB : List (List UInt8)} (h : LogOf s p q LB) : rowsB LB = upT nodeB (leafF LB) 0 LB.length := by
  have := rowsB_up LB LB.length (Nat.le_refl _)
  rwa [List.take_length] at this
theorem LogOf.leaf {s : List (List AV)} {p q : Nat} {LB : List (List UInt8)} (h : LogOf s p q LB) (i : Nat) : (leafF LB i).length ≤ 2 ^ 20 := leafF_len LB (fun x hx => by rw [h.small x hx]; omega) i
theorem LogOf.ok {s : List (List AV)} {p q : Nat} {LB : List (List UInt8)} (h : LogOf s p q LB) : RowsOk (rowsB LB) := by
  rw [h.up]; exact up_ok _ _ (by have := h.len; omega) h.leaf
theorem LogOf.row0 {s : List (List AV)} {p q : Nat} {LB : List (List UInt8)} (h : LogOf s p q LB) : (rowsB LB)[0]? = some (rowT nodeB (leafF LB) 0 LB.length) := by
  rw [h.up, upT_get]; simp
theorem LogOf.app {s : List (List AV)} {p q : Nat} {LB : List (List UInt8)} (h : LogOf s p q LB) (j : List (List AV)) : LogOf (s ++ j) p q LB := ⟨h.at'.app, h.len, h.small⟩
theorem LogOf.keep {s s' : List (List AV)} {p q : Nat} {LB : List (List UInt8)} (h : LogOf s p q LB) (hp : s'[p]? = s[p]?) (hq : s'[q]? = s[q]?) : LogOf s' p q LB := ⟨h.at'.keep hp hq, h.len, h.small⟩
theorem LogOf.size {s : List (List AV)} {p q : Nat} {LB : List (List UInt8)} (h : LogOf s p q LB) : ev 48 [logP p] s = some (.int .i64 LB.length, s) := by
  have := Size_eq s p q _ _ h.at' h.row0
  rwa [rowT_len] at this
theorem LogOf.rd {s : List (List AV)} {p q : Nat} {LB : List (List UInt8)} (h : LogOf s p q LB) (B : Nat) : RdOkB (logRd s p (rowsB LB)) s.length B := logRd_ok h.at' h.ok B
theorem LogOf.tells {s : List (List AV)} {p q : Nat} {LB : List (List UInt8)} (h : LogOf s p q LB) : Tells (logRd s p (rowsB LB)) (leafF LB) LB.length none := by
  intro j v k _ hv hk
  refine ⟨j, by omega, .inl ?_⟩
  simp only [logRd]
  rw [h.up, lookR_up, if_pos (by simp; exact hk)]
  simp
/-- a hash that a log has -/
def lhashQ (LB : List (List UInt8)) (v k : Int) : Option (List UInt8) := if 0 ≤ v ∧ 0 ≤ k ∧ (k.toNat + 1) * 2 ^ v.toNat ≤ LB.length then some (wholeT nodeB (leafF LB) v.toNat k.toNat) else none
theorem LogOf.hash {s : List (List AV)} {p q : Nat} {LB : List (List UInt8)} (h : LogOf s p q LB) (v k : Int) : ev 11 [logP p, .int .i64 v, .int .i64 k] s = some (lookA (lhashQ LB v k), s) := by
  have := Hash_eq s p q _ h.at' h.ok v k
  rwa [h.up, lookR_up] at this
def lrootQ (LB : List (List UInt8)) (n : Int) : List UInt8 × Int := if LB.length < n then ([], 6) else rootQ (leafF LB) n
def lproveQ (LB : List (List UInt8)) (i n : Int) : List (List UInt8) × Int := if LB.length < n then ([], 6) else proveQ (leafF LB) i n
def lproveTQ (LB : List (List UInt8)) (m n : Int) : List (List UInt8) × Int := if LB.length < n then ([], 6) else proveTQ (leafF LB) m n
theorem LogOf.root {s : List (List AV)} {p q : Nat} {LB : List (List UInt8)} (h : LogOf s p q LB) (n : Int) :
    ev 35 [logP p, .int .i64 n] s = some (.tup [.sl .sh ((lrootQ LB n).1.map .u8), .int .i64 (lrootQ LB n).2], s) := by
  have hS := h.size
  have hlen := h.len
  simp only [logP] at hS ⊢
  refine EV_post rfl Tryz.func35 rfl (by simp [Tryz.ntmps35]) (by kernel_rfl) (by kernel_rfl) ?_
  by_cases hc : (LB.length : Int) < n
  · have hP : lrootQ LB n = ([], 6) := by unfold lrootQ; rw [if_pos hc]
    simp (maxSteps := 4000000) [List.getElem?_cons_zero, List.getElem?_cons_succ, hS, hc, hP, Tryz.results35]
  · have hP : lrootQ LB n = rootQ (leafF LB) n := by unfold lrootQ; rw [if_neg hc]
    have hR := Root_eqB (h.rd LB.length) (by omega) n (by omega) 0
    obtain ⟨j, e | ⟨_, he, _⟩⟩ := rootP_tells h.tells (by omega) n (by omega)
    · rw [e] at hR
      simp only [logRd, logP] at hR
      rw [hP]
      simp (maxSteps := 4000000) [List.getElem?_cons_zero, List.getElem?_cons_succ, hS, hc, hR, Tryz.results35]
    · cases he
theorem LogOf.prove {s : List (List AV)} {p q : Nat} {LB : List (List UInt8)} (h : LogOf s p q LB) (i n : Int) :
    ev 36 [logP p, .int .i64 i, .int .i64 n] s = some (.tup [.sl .sh (hs (lproveQ LB i n).1), .int .i64 (lproveQ LB i n).2], s) := by
  have hS := h.size
  have hlen := h.len
  simp only [logP] at hS ⊢
  refine EV_post rfl Tryz.func36 rfl (by simp [Tryz.ntmps36]) (by kernel_rfl) (by kernel_rfl) ?_
  by_cases hc : (LB.length : Int) < n
  · have hP : lproveQ LB i n = ([], 6) := by unfold lproveQ; rw [if_pos hc]
    simp (maxSteps := 4000000) [List.getElem?_cons_zero, List.getElem?_cons_succ, hS, hc, hP, hs, Tryz.results36]
  · have hP : lproveQ LB i n = proveQ (leafF LB) i n := by unfold lproveQ; rw [if_neg hc]
    have hR := Prove_eqB (h.rd LB.length) (by omega) i n (by omega) 0
    obtain ⟨j, e | ⟨_, he, _⟩⟩ := proveP_tells h.tells (by omega) i n (by omega)
    · rw [e] at hR
      simp only [logRd, logP] at hR
      rw [hP]
      generalize hs (proveQ (leafF LB) i n).1 = X at *
      simp (maxSteps := 4000000) [List.getElem?_cons_zero, List.getElem?_cons_succ, hS, hc, hR, Tryz.results36]
    · cases he
theorem LogOf.proveT {s : List (List AV)} {p q : Nat} {LB : List (List UInt8)} (h : LogOf s p q LB) (m n : Int) :
    ev 37 [logP p, .int .i64 m, .int .i64 n] s = some (.tup [.sl .sh (hs (lproveTQ LB m n).1), .int .i64 (lproveTQ LB m n).2], s) := by
  have hS := h.size
  have hlen := h.len
  simp only [logP] at hS ⊢
  refine EV_post rfl Tryz.func37 rfl (by simp [Tryz.ntmps37]) (by kernel_rfl) (by kernel_rfl) ?_
  by_cases hc : (LB.length : Int) < n
  · have hP : lproveTQ LB m n = ([], 6) := by unfold lproveTQ; rw [if_pos hc]
    simp (maxSteps := 4000000) [List.getElem?_cons_zero, List.getElem?_cons_succ, hS, hc, hP, hs, Tryz.results37]
  · have hP : lproveTQ LB m n = proveTQ (leafF LB) m n := by unfold lproveTQ; rw [if_neg hc]
    have hR := ProveTree_eqB (h.rd LB.length) (by omega) m n (by omega) 0
    obtain ⟨j, e | ⟨_, he, _⟩⟩ := proveTP_tells h.tells (by omega) m n (by omega)
    · rw [e] at hR
      simp only [logRd, logP] at hR
      rw [hP]
      generalize hs (proveTQ (leafF LB) m n).1 = X at *
      simp (maxSteps := 4000000) [List.getElem?_cons_zero, List.getElem?_cons_succ, hS, hc, hR, Tryz.results37]
    · cases he
/-- a log made -/
theorem made_of (l : List (List UInt8)) (hl : l.length ≤ 1000) (hx : ∀ x ∈ l, x.length ≤ 2 ^ 28) (σ : List (List AV)) :
    ∃ s p q, ev 8 [.sl .sh (hs l)] σ = some (.tup [logP p, .sl .sh (hs (l.map leafB))], s) ∧ LogOf s p q (l.map leafB) ∧ (∀ b, b < σ.length → s[b]? = σ[b]?) ∧ σ.length ≤ s.length ∧ σ.length ≤ p ∧ σ.length ≤ q := by
  obtain ⟨r, h1, s, p, q, rfl, h2, h3, h4, h5, h6⟩ := made_eq l hl hx σ
  exact ⟨s, p, q, h1, ⟨h2, by simp; omega, fun x hx => by obtain ⟨y, _, rfl⟩ := List.mem_map.1 hx; exact leafB_len y⟩, h3, h4, h5, h6⟩
end Go.Proofs.Tryz.Ai
end
section
/- The document's hashes and proofs of leaves. -/
namespace Go.Proofs.Tryz.Ai
open Go Go.AI Go.Proofs
set_option maxHeartbeats 1000000
set_option linter.unusedVariables false

theorem rBytes_eq (o : Own) (l : List UInt8) (hl : l.length ≤ 2 ^ 39) (σ) : ev 72 [.sl o (l.map .u8)] σ = some (.sl (.ex 5 1) (l.map .u8), σ) := by
  refine EV_post rfl Tryz.func72 rfl (by simp [Tryz.ntmps72]) (by kernel_rfl) (by kernel_rfl) ?_
  simp (maxSteps := 4000000) [List.getElem?_cons_zero, List.getElem?_cons_succ, Tryz.results72]
  repeat (rw [need_of]; rotate_left; (· (try unfold most); omega); simp (maxSteps := 4000000) [List.getElem?_cons_zero, List.getElem?_cons_succ, Tryz.results72])
/-- the hash of leaves -/
def hashL (l : List (List UInt8)) : List UInt8 := if l.length = 0 then sha256 [] else spanT nodeB (leafF l) 0 l.length
theorem leafF_take {l : List (List UInt8)} {s i : Nat} (h : i < s) : leafF (l.take s) i = leafF l i := by
  simp [leafF, List.getD_eq_getElem?_getD, List.getElem?_take, h]
theorem leafF_drop {l : List (List UInt8)} {s i : Nat} : leafF (l.drop s) i = leafF l (s + i) := by
  simp [leafF, List.getD_eq_getElem?_getD, List.getElem?_drop]
theorem hashL_span {l : List (List UInt8)} {L : Nat → List UInt8} {f : Nat} (h1 : 1 ≤ l.length) (h : ∀ i, i < l.length → leafF l i = L (f + i)) : hashL l = spanT nodeB L f l.length := by
  unfold hashL
  rw [if_neg (by omega)]
  exact spanT_congr _ _ _ h1 fun i hi => by rw [Nat.zero_add]; exact h i hi
theorem hashL_split {l : List (List UInt8)} (h : 2 ≤ l.length) : hashL l = nodeB (hashL (l.take (halfN l.length))) (hashL (l.drop (halfN l.length))) := by
  have hs := halfN_spec h
  have e1 : (l.take (halfN l.length)).length = halfN l.length := by simp; omega
  have e2 : (l.drop (halfN l.length)).length = l.length - halfN l.length := by simp
  rw [hashL_span (l := l) (L := leafF l) (f := 0) (by omega) (fun i _ => by rw [Nat.zero_add]), spanT, dif_pos h,
    hashL_span (l := l.take (halfN l.length)) (L := leafF l) (f := 0) (by omega) (fun i hi => by rw [Nat.zero_add]; exact leafF_take (by omega)),
    hashL_span (l := l.drop (halfN l.length)) (L := leafF l) (f := halfN l.length) (by omega) (fun i hi => leafF_drop), e1, e2, Nat.zero_add]
theorem spanT_len (L : Nat → List UInt8) (f n : Nat) (h : ∀ i, (L i).length ≤ 2 ^ 27) : (spanT nodeB L f n).length ≤ 2 ^ 27 := by
  rw [spanT]; split
  · rw [nodeB_len]; omega
  · exact h f
theorem leafF_le (l : List (List UInt8)) (h : ∀ x ∈ l, x.length ≤ 2 ^ 27) (i : Nat) : (leafF l i).length ≤ 2 ^ 27 := by
  unfold leafF
  rw [List.getD_eq_getElem?_getD]
  cases hx : l[i]? with
  | none => simp
  | some x => simpa using h x (List.mem_of_getElem? hx)
theorem hashL_len (l : List (List UInt8)) (h : ∀ x ∈ l, x.length ≤ 2 ^ 27) : (hashL l).length ≤ 2 ^ 27 := by
  unfold hashL; split
  · rw [sha256_len]; omega
  · exact spanT_len _ _ _ (leafF_le l h)
theorem rHash_eq (n : Nat) : ∀ (l : List (List UInt8)), l.length = n → n ≤ 2 ^ 30 → (∀ x ∈ l, x.length ≤ 2 ^ 27) → ∀ σ, ev 63 [.sl .sh (hs l)] σ = some (.sl (.ex 5 1) ((hashL l).map .u8), σ) := by
  induction n using Nat.strongRecOn with
  | _ n ih =>
    intro l hn hb hx σ
    by_cases h0 : n = 0
    · have hl : l = [] := List.eq_nil_of_length_eq_zero (by omega)
      subst hl
      have hS : ∀ σ, ev 74 [.sl .sh []] σ = some (.sl (.ex 5 1) ((sha256 []).map .u8), σ) := fun σ => rSHA256_eq .sh [] (by simp) σ
      have hP : hashL [] = sha256 [] := rfl
      refine EV_post rfl Tryz.func63 rfl (by simp [Tryz.ntmps63]) (by kernel_rfl) (by kernel_rfl) ?_
      simp (maxSteps := 4000000) [List.getElem?_cons_zero, List.getElem?_cons_succ, hs, hS, hP, Tryz.results63]
    · by_cases h1 : n = 1
      · obtain ⟨x, rfl⟩ : ∃ x, l = [x] := by
          match l, hn with
          | [x], _ => exact ⟨x, rfl⟩
          | [], h => simp at h; omega
          | _ :: _ :: _, h => simp at h; omega
        have hB := rBytes_eq .sh x (by have := hx x (by simp); omega)
        have hP : hashL [x] = x := by simp [hashL, spanT, leafF]
        refine EV_post rfl Tryz.func63 rfl (by simp [Tryz.ntmps63]) (by kernel_rfl) (by kernel_rfl) ?_
        simp (maxSteps := 4000000) [List.getElem?_cons_zero, List.getElem?_cons_succ, hs, hB, hP, Tryz.results63]
      · have h2 : 2 ≤ l.length := by omega
        have hs' := halfN_spec h2
        have hH := split_eq l.length h2 (by omega)
        have i1 := ih (halfN l.length) (by omega) (l.take (halfN l.length)) (by simp; omega) (by omega) (fun x h => hx x (List.mem_of_mem_take h))
        have i2 := ih (l.length - halfN l.length) (by omega) (l.drop (halfN l.length)) (by simp) (by omega) (fun x h => hx x (List.mem_of_mem_drop h))
        have hN := rNode_eq (.ex 5 1) (.ex 5 1) (hashL (l.take (halfN l.length))) (hashL (l.drop (halfN l.length)))
          (by have := hashL_len (l.take (halfN l.length)) (fun x h => hx x (List.mem_of_mem_take h)); omega) (by have := hashL_len (l.drop (halfN l.length)) (fun x h => hx x (List.mem_of_mem_drop h)); omega)
        have hN2 := rNode_eq .sh .sh (hashL (l.take (halfN l.length))) (hashL (l.drop (halfN l.length)))
          (by have := hashL_len (l.take (halfN l.length)) (fun x h => hx x (List.mem_of_mem_take h)); omega) (by have := hashL_len (l.drop (halfN l.length)) (fun x h => hx x (List.mem_of_mem_drop h)); omega)
        rw [hashL_split h2]
        generalize hashL (l.take (halfN l.length)) = X at *
        generalize hashL (l.drop (halfN l.length)) = Y at *
        simp only [hs, List.map_take] at i1
        simp only [hs, List.map_drop] at i2
        have hl0 : ¬ l.length = 0 := by omega
        have hl1 : ¬ l.length = 1 := by omega
        obtain ⟨t, ht⟩ : ∃ t, halfN l.length = t := ⟨_, rfl⟩
        rw [ht] at hH i1 i2 hs'
        have q0 : t ≤ l.length := by omega
        refine EV_post rfl Tryz.func63 rfl (by simp [Tryz.ntmps63]) (by kernel_rfl) (by kernel_rfl) ?_
        simp (maxSteps := 4000000) [List.getElem?_cons_zero, List.getElem?_cons_succ, hs, hl0, hl1, hH, q0, i1, i2, hN, hN2, Tryz.results63]
end Go.Proofs.Tryz.Ai
end
section
/- Small functions of the statements about logs. -/
namespace Go.Proofs.Tryz.Ai
open Go Go.AI Go.Proofs
set_option maxHeartbeats 1000000
set_option linter.unusedVariables false

theorem few_eq (l : List (List UInt8)) (hl : l.length ≤ 2 ^ 40) (hx : ∀ x ∈ l, x.length ≤ 2 ^ 40) (σ) : ∃ b, ev 7 [.sl .sh (hs l)] σ = some (.bool b, σ) ∧ (b = true → l.length ≤ 70) := by
  have key : ∃ r, ev 7 [.sl .sh (hs l)] σ = some r ∧ ∃ b, r = (.bool b, σ) ∧ (b = true → l.length ≤ 70) := by
    refine EV_postE rfl Tryz.func7 rfl (by simp [Tryz.ntmps7]) (by kernel_rfl) (by kernel_rfl) ?_
    simp (maxSteps := 4000000) [List.getElem?_cons_zero, List.getElem?_cons_succ, ]
    refine Post_loop (I := fun x : Nat × Nat => ⟨[(0, .sl .sh (hs l)), (3, .int .i64 x.2), (4, .int .i64 x.1)], [], σ⟩) (Pr := fun x => x.1 ≤ l.length ∧ x.1 ≤ 71 ∧ x.2 ≤ 4000) (μ := fun x => l.length - x.1) (a := (0, 0)) (by simp [hs]) (by simp) ?_
    rintro ⟨i, n⟩ ⟨hi, hi2, hn⟩
    simp only at hi hi2 hn ⊢
    have hhl : (hs l).length = l.length := by simp [hs]
    by_cases hc : i < l.length
    · by_cases hc2 : i ≤ 70
      · obtain ⟨x, hxi⟩ : ∃ x, l[i]? = some x := ⟨_, List.getElem?_eq_getElem hc⟩
        have hxl := hx x (List.mem_of_getElem? hxi)
        have hxs : (hs l)[i]? = some (.sl .sh (x.map .u8)) := by simp [hs, hxi]
        have w2 : IntKind.i64.wrap ((i : Int) + 1) = (i : Int) + 1 := wrap64 (by omega)
        generalize hs l = H at *
        simp (maxSteps := 4000000) [List.getElem?_cons_zero, List.getElem?_cons_succ, -getElem?_pos, hhl, hc, hc2, hxs, w2]
        obtain ⟨t, ht1, ht2⟩ : ∃ t : Nat, (if 2000 < x.length then (2000 : Int) else x.length) = (t : Int) ∧ t ≤ 2000 := ⟨min x.length 2000, by split <;> omega, by omega⟩
        have w1 : IntKind.i64.wrap ((n : Int) + t) = ((n + t : Nat) : Int) := by rw [wrap64 (by omega)]; omega
        obtain ⟨u, hu⟩ : ∃ u, n + t ≤ 4000 ∧ u = n + t ∨ 4000 < n + t ∧ u = 4000 := by
          rcases Nat.lt_or_ge 4000 (n + t) with h | h
          · exact ⟨4000, .inr ⟨h, rfl⟩⟩
          · exact ⟨n + t, .inl ⟨h, rfl⟩⟩
        rw [ht1, w1]
        exact ⟨i + 1, u, ⟨by omega, by omega, by omega⟩, by omega, by split <;> omega, by omega⟩
      · have hl70 : ¬ l.length ≤ 70 := by omega
        generalize hs l = H at *
        simp (maxSteps := 4000000) [List.getElem?_cons_zero, List.getElem?_cons_succ, -getElem?_pos, hhl, hc, hc2, hl70, Tryz.results7]
    · generalize hs l = H at *
      simp (maxSteps := 4000000) [List.getElem?_cons_zero, List.getElem?_cons_succ, -getElem?_pos, hhl, hc, Tryz.results7]
      by_cases h70 : l.length ≤ 70
      · by_cases hn2 : n ≤ 2000
        · simp (maxSteps := 4000000) [List.getElem?_cons_zero, List.getElem?_cons_succ, -getElem?_pos, h70, hn2, Tryz.results7]
          exact ⟨_, _, ⟨rfl, rfl⟩, .inr ⟨rfl, rfl⟩⟩
        · simp (maxSteps := 4000000) [List.getElem?_cons_zero, List.getElem?_cons_succ, -getElem?_pos, h70, hn2, Tryz.results7]
          exact ⟨_, _, ⟨rfl, rfl⟩, .inl ⟨rfl, rfl⟩⟩
      · simp (maxSteps := 4000000) [List.getElem?_cons_zero, List.getElem?_cons_succ, -getElem?_pos, h70, Tryz.results7]
  obtain ⟨r, h1, b, rfl, h2⟩ := key
  exact ⟨b, h1, h2⟩
end Go.Proofs.Tryz.Ai
end
section
/- Roots and proofs by a read that may fail. -/
namespace Go.Proofs.Tryz.Ai
open Go Go.AI Go.Proofs
set_option maxHeartbeats 1000000
set_option linter.unusedVariables false

theorem log_eql (p : Nat) (sh : Option (TypeId × Nat)) : bin Tryz.prog .eql true 25 (.gp p 0 sh) .nilp = some (.bool false) := by
  have h : Tryz.prog.underlying 25 = some (.pointer (Tryz.prog.pointee 25)) := by kernel_rfl
  simp only [bin, isNilP, bnd_some]
  rw [need_of h]
/-- what proofs have in them is 32 bytes long -/
theorem spanX_len (L : Nat → List UInt8) (h : ∀ i, (L i).length ≤ 2 ^ 27) (x : Nat × Nat) : (spanX L x).length ≤ 2 ^ 27 := spanT_len L x.1 x.2 h
theorem rootQ_len (L : Nat → List UInt8) (h : ∀ i, (L i).length ≤ 2 ^ 27) (n : Int) : (rootQ L n).1.length ≤ 2 ^ 27 := by
  unfold rootQ; split
  · simp
  · split
    · simp only [sha256_len]; omega
    · exact spanT_len _ _ _ h
theorem proveQ_len (L : Nat → List UInt8) (h : ∀ i, (L i).length ≤ 2 ^ 27) (i n : Int) (hn : n ≤ 1048576) : (proveQ L i n).1.length ≤ 2 ^ 27 ∧ ∀ x ∈ (proveQ L i n).1, x.length ≤ 2 ^ 27 := by
  unfold proveQ; split
  · have := pathN_le n.toNat i.toNat 0
    exact ⟨by simp; omega, fun x hx => by obtain ⟨y, _, rfl⟩ := List.mem_map.1 hx; exact spanX_len L h y⟩
  · simp
theorem proveTQ_len (L : Nat → List UInt8) (h : ∀ i, (L i).length ≤ 2 ^ 27) (i n : Int) (hn : n ≤ 1048576) : (proveTQ L i n).1.length ≤ 2 ^ 27 ∧ ∀ x ∈ (proveTQ L i n).1, x.length ≤ 2 ^ 27 := by
  unfold proveTQ; split
  · split
    · simp
    · have := subN_le n.toNat i.toNat 0 true
      exact ⟨by simp; omega, fun x hx => by obtain ⟨y, _, rfl⟩ := List.mem_map.1 hx; exact spanX_len L h y⟩
  · simp
end Go.Proofs.Tryz.Ai
end
section
/- Proofs of a log hold: plain. -/
namespace Go.Proofs.Tryz.Ai
open Go Go.AI Go.Proofs
set_option maxHeartbeats 1000000
set_option linter.unusedVariables false

theorem halfN_eq {m n : Nat} (h1 : halfN n < m) (h2 : m ≤ n) (h : 2 ≤ n) : halfN m = halfN n := by
  have hs := halfN_spec h
  have hm := halfN_spec (n := m) (by omega)
  obtain ⟨a, ha⟩ := halfN_pow n
  obtain ⟨b, hb⟩ := halfN_pow m
  rw [ha] at hs h1 ⊢
  rw [hb] at hm ⊢
  have q1 : b < a + 1 := (Nat.pow_lt_pow_iff_right (a := 2) (by omega)).1 (by rw [Nat.pow_succ]; omega)
  have q2 : a < b + 1 := (Nat.pow_lt_pow_iff_right (a := 2) (by omega)).1 (by rw [Nat.pow_succ]; omega)
  have : b = a := by omega
  rw [this]
theorem last_app {α : Type} (d : α) (l : List α) (x : α) : (l ++ [x]).take ((l ++ [x]).length - 1) = l ∧ (l ++ [x]).getD ((l ++ [x]).length - 1) d = x := by
  constructor
  · simp
  · simp [List.getD_eq_getElem?_getD]
/-- the path of a record leads to the hash of all -/
theorem climb_span (L : Nat → List UInt8) (n : Nat) : ∀ i f, i < n → climbB nodeB ((pathN i f n).map (spanX L)) i n (L (f + i)) = spanT nodeB L f n := by
  induction n using Nat.strongRecOn with
  | _ n ih =>
    intro i f hi
    rw [climbB, spanT, pathN]
    by_cases h2 : 2 ≤ n
    · have hs := halfN_spec h2
      rw [dif_pos h2, dif_pos h2, dif_pos h2]
      by_cases hc : i < halfN n
      · rw [if_pos hc, if_pos hc, List.map_append]
        obtain ⟨e1, e2⟩ := last_app [] ((pathN i f (halfN n)).map (spanX L)) (spanX L (f + halfN n, n - halfN n))
        rw [show [(f + halfN n, n - halfN n)].map (spanX L) = [spanX L (f + halfN n, n - halfN n)] from rfl, e1, e2, ih _ hs.2.1 i f hc]
        rfl
      · rw [if_neg hc, if_neg hc, List.map_append]
        obtain ⟨e1, e2⟩ := last_app [] ((pathN (i - halfN n) (f + halfN n) (n - halfN n)).map (spanX L)) (spanX L (f, halfN n))
        have := ih (n - halfN n) (by omega) (i - halfN n) (f + halfN n) (by omega)
        rw [show f + halfN n + (i - halfN n) = f + i by omega] at this
        rw [show [(f, halfN n)].map (spanX L) = [spanX L (f, halfN n)] from rfl, e1, e2, this]
        rfl
    · rw [dif_neg h2, dif_neg h2]
      have : i = 0 := by omega
      rw [this, Nat.add_zero]
/-- the proof of a longer log leads to both hashes -/
theorem grow_span (L : Nat → List UInt8) (n : Nat) : ∀ m f w old, 0 < m → m ≤ n → (w = true → old = spanT nodeB L f m) → growB nodeB ((subN m f n w).map (spanX L)) m n w old = (spanT nodeB L f m, spanT nodeB L f n) := by
  induction n using Nat.strongRecOn with
  | _ n ih =>
    intro m f w old h0 hm ho
    rw [growB, subN]
    by_cases h2 : m < n ∧ 0 < m
    · have hn2 : 2 ≤ n := by omega
      have hs := halfN_spec hn2
      rw [dif_pos h2, dif_pos h2]
      by_cases hc : m ≤ halfN n
      · rw [if_pos hc, if_pos hc, List.map_append]
        obtain ⟨e1, e2⟩ := last_app [] ((subN m f (halfN n) w).map (spanX L)) (spanX L (f + halfN n, n - halfN n))
        rw [show [(f + halfN n, n - halfN n)].map (spanX L) = [spanX L (f + halfN n, n - halfN n)] from rfl, e1, e2, ih _ hs.2.1 m f w old h0 hc ho]
        rw [spanT.eq_def nodeB L f n, dif_pos hn2]
        rfl
      · rw [if_neg hc, if_neg hc, List.map_append]
        obtain ⟨e1, e2⟩ := last_app [] ((subN (m - halfN n) (f + halfN n) (n - halfN n) false).map (spanX L)) (spanX L (f, halfN n))
        rw [show [(f, halfN n)].map (spanX L) = [spanX L (f, halfN n)] from rfl, e1, e2, ih (n - halfN n) (by omega) (m - halfN n) (f + halfN n) false old (by omega) (by omega) (fun h => by cases h)]
        have em := halfN_eq (m := m) (n := n) (by omega) hm hn2
        rw [spanT.eq_def nodeB L f n, dif_pos hn2, spanT.eq_def nodeB L f m, dif_pos (by omega), em]
        rfl
    · rw [dif_neg h2, dif_neg h2]
      have : m = n := by omega
      subst this
      cases w with
      | true => rw [if_pos rfl, ho rfl]
      | false => simp [spanX]
theorem spanT_len32 (L : Nat → List UInt8) (n : Nat) : ∀ f, 1 ≤ n → (∀ i, i < n → (L (f + i)).length = 32) → (spanT nodeB L f n).length = 32 := by
  intro f h1 h
  rw [spanT]
  split
  · exact nodeB_len _ _
  · have := h 0 (by omega); simpa using this
theorem leafF_len32 (LB : List (List UInt8)) (h : ∀ x ∈ LB, x.length = 32) (i : Nat) (hi : i < LB.length) : (leafF LB i).length = 32 := by
  unfold leafF
  rw [List.getD_eq_getElem?_getD, List.getElem?_eq_getElem hi]
  exact h _ (List.getElem_mem hi)
section
variable {LB : List (List UInt8)}
theorem span32 (h : ∀ x ∈ LB, x.length = 32) {x : Nat × Nat} (hx : spanOk LB.length x) : (spanX (leafF LB) x).length = 32 :=
  spanT_len32 _ _ _ hx.1 fun i hi => leafF_len32 LB h _ (by have := hx.2.2; omega)
theorem spans32 (h : ∀ x ∈ LB, x.length = 32) {l : List (Nat × Nat)} (hl : ∀ x ∈ l, spanOk LB.length x) : ∀ y ∈ l.map (spanX (leafF LB)), y.length = 32 := fun y hy => by
  obtain ⟨x, hx, rfl⟩ := List.mem_map.1 hy
  exact span32 h (hl x hx)
theorem all32 {p : List (List UInt8)} (h : ∀ y ∈ p, y.length = 32) : p.all is32 = true := by
  rw [List.all_eq_true]; intro x hx; simp [is32, h x hx]
theorem root32 (h : ∀ x ∈ LB, x.length = 32) {n : Int} (h0 : 0 ≤ n) (hn : n ≤ LB.length) : (rootQ (leafF LB) n).1.length = 32 ∧ (rootQ (leafF LB) n).2 = 0 := by
  unfold rootQ
  rw [if_neg (by omega)]
  split
  · exact ⟨sha256_len _, rfl⟩
  · exact ⟨spanT_len32 _ _ _ (by omega) fun i hi => leafF_len32 LB h _ (by omega), rfl⟩
/-- what a log proves of a record holds -/
theorem rec_sound (h : ∀ x ∈ LB, x.length = 32) (hl : LB.length ≤ 1048576) (i n : Nat) (hi : i < n) (hn : n ≤ LB.length) :
    recB (proveQ (leafF LB) i n).1 i n (leafF LB i) (rootQ (leafF LB) n).1 = 0 ∧ (proveQ (leafF LB) i n).2 = 0 := by
  have e1 : proveQ (leafF LB) i n = ((pathN i 0 n).map (spanX (leafF LB)), 0) := by unfold proveQ; rw [if_pos (by omega)]; rfl
  have e2 : rootQ (leafF LB) n = (spanT nodeB (leafF LB) 0 n, 0) := by unfold rootQ; rw [if_neg (by omega), if_neg (by omega)]; rfl
  have hr := root32 h (n := n) (by omega) (by omega)
  rw [e2] at hr
  have hp := spans32 h (l := pathN i 0 n) (fun x hx => pathN_ok n i 0 _ (algn_zero n) (by omega) x hx)
  have hc := climb_span (leafF LB) n i 0 hi
  rw [Nat.zero_add] at hc
  rw [e1, e2]
  refine ⟨?_, rfl⟩
  unfold recB
  have g1 : is32 (leafF LB i) = true := by simp [is32, leafF_len32 LB h i (by omega)]
  have g2 : is32 (spanT nodeB (leafF LB) 0 n) = true := by simp [is32, hr.1]
  rw [if_neg (by omega), if_pos ⟨by simp [stepsN], all32 hp, g1, g2⟩]
  rw [if_pos (by simp only [Int.toNat_natCast]; rw [hc]; simp)]
/-- what a log proves of a longer one holds -/
theorem tree_sound (h : ∀ x ∈ LB, x.length = 32) (hl : LB.length ≤ 1048576) (m n : Nat) (hm : m ≤ n) (hn : n ≤ LB.length) :
    treeB (proveTQ (leafF LB) m n).1 m n (rootQ (leafF LB) m).1 (rootQ (leafF LB) n).1 = 0 ∧ (proveTQ (leafF LB) m n).2 = 0 := by
  have hcond : 0 ≤ (n : Int) ∧ 0 ≤ (m : Int) ∧ (m : Int) ≤ n := by omega
  by_cases h0 : m = 0
  · have e : proveTQ (leafF LB) m n = ([], 0) := by unfold proveTQ; rw [if_pos hcond, if_pos (.inl (by omega))]
    rw [e]
    unfold treeB
    rw [if_neg (by omega), if_pos (by omega)]; simp
  · by_cases h1 : m = n
    · have e : proveTQ (leafF LB) m n = ([], 0) := by unfold proveTQ; rw [if_pos hcond, if_pos (.inr (by omega))]
      rw [e]
      subst h1
      unfold treeB
      rw [if_neg (by omega), if_neg (by omega), if_pos rfl]; simp
    · have e : proveTQ (leafF LB) m n = ((subN m 0 n true).map (spanX (leafF LB)), 0) := by unfold proveTQ; rw [if_pos hcond, if_neg (by omega)]; rfl
      rw [e]
      refine ⟨?_, rfl⟩
      unfold treeB
      rw [if_neg (by omega), if_neg (by omega), if_neg (by omega)]
      have hr := root32 h (n := n) (by omega) (by omega)
      have hr' := root32 h (n := m) (by omega) (by omega)
      have e2 : rootQ (leafF LB) n = (spanT nodeB (leafF LB) 0 n, 0) := by unfold rootQ; rw [if_neg (by omega), if_neg (by omega)]; rfl
      have e3 : rootQ (leafF LB) m = (spanT nodeB (leafF LB) 0 m, 0) := by unfold rootQ; rw [if_neg (by omega), if_neg (by omega)]; rfl
      have hp := spans32 h (l := subN m 0 n true) (fun x hx => subN_ok n m 0 _ true (by omega) (algn_zero n) (by omega) x hx)
      have hg := grow_span (leafF LB) n m 0 true (spanT nodeB (leafF LB) 0 m) (by omega) hm (fun _ => rfl)
      rw [e2] at hr ⊢
      rw [e3] at hr' ⊢
      simp only [Int.toNat_natCast]
      have g1 : is32 (spanT nodeB (leafF LB) 0 m) = true := by simp [is32, hr'.1]
      have g2 : is32 (spanT nodeB (leafF LB) 0 n) = true := by simp [is32, hr.1]
      rw [if_pos ⟨by simp [subStepsN], all32 hp, g1, g2⟩, if_pos (by rw [hg]; simp)]
end
end Go.Proofs.Tryz.Ai
end
section
/- A log's proofs, their hashes in boxes of their own. -/
namespace Go.Proofs.Tryz.Ai
open Go Go.AI Go.Proofs
set_option maxHeartbeats 1000000
set_option linter.unusedVariables false

theorem msRow_succ (ty a n k : Nat) : msRow ty a (n + 1) k = msRow ty a n k ++ [.ms ty 1 (a + n) 0 k] := by simp [msRow, List.range_succ]
theorem msRow_len (ty a n k : Nat) : (msRow ty a n k).length = n := by simp [msRow]
theorem freshM_eq (o : Own) (l : List UInt8) (hl : l.length = 32) (σ) : ev (100000 + 46) [.sl o (l.map .u8)] σ = some (.ms 5 1 σ.length 0 32, σ ++ [l.map .u8]) := by
  have q : 32 ≤ most := by unfold most; omega
  obtain ⟨x, r, rfl⟩ : ∃ x r, l = x :: r := by cases l with
    | nil => simp at hl
    | cons x r => exact ⟨x, r, rfl⟩
  have h1 : r.length + 1 = 32 := by simpa using hl
  have h2 : r.length = 31 := by omega
  refine EV_post rfl Tryz.func46 rfl (by simp [Tryz.ntmps46]) (by kernel_rfl) (by kernel_rfl) ?_
  simp (maxSteps := 4000000) [List.getElem?_cons_zero, List.getElem?_cons_succ, h2, q, Tryz.results46]
  repeat (rw [need_of]; rotate_left; (· (try unfold most); omega); simp (maxSteps := 4000000) [List.getElem?_cons_zero, List.getElem?_cons_succ, h2, q, Tryz.results46])
/-- bytes in boxes -/
def boxesB (l : List (List UInt8)) : List (List AV) := l.map fun x => x.map .u8
theorem boxesB_len (l : List (List UInt8)) : (boxesB l).length = l.length := by simp [boxesB]
theorem hashesM_eq {s : List (List AV)} {p q : Nat} {LB : List (List UInt8)} (h : LogOf s p q LB) (l : List (Nat × Nat)) (hl : l.length ≤ 2 ^ 30) (hsp : ∀ x ∈ l, spanOk LB.length x) :
    ev (100000 + 110) [.sl .sh (l.map spanA), .fb 11 [logP p]] s = some (.tup [.sl .sh (msRow 5 s.length l.length 32), .int .i64 0], s ++ boxesB (l.map (spanX (leafF LB)))) := by
  have hlen := h.len
  refine EV_post rfl Tryz.func110 rfl (by simp [Tryz.ntmps110]) (by kernel_rfl) (by kernel_rfl) ?_
  simp only [logP]
  simp (maxSteps := 4000000) [List.getElem?_cons_zero, List.getElem?_cons_succ, ]
  refine Post_loop (I := fun i : Nat => ⟨[(1, .fb 11 [.gp p 0 (some (80, 1))]), (6, .sl (.ex 35 1) (msRow 5 s.length i 32)), (11, .sl .sh (l.map spanA)), (12, .int .i64 l.length), (13, .int .i64 i)], [], s ++ boxesB ((l.take i).map (spanX (leafF LB)))⟩) (Pr := fun i => i ≤ l.length) (μ := fun i => l.length - i) (a := 0) (by simp [msRow, boxesB]) (Nat.zero_le _) ?_
  intro i hi
  by_cases hc : i < l.length
  · obtain ⟨x, hx⟩ : ∃ x, l[i]? = some x := ⟨_, List.getElem?_eq_getElem hc⟩
    have hxs : (l.map spanA)[i]? = some (.agg [.int .i64 x.1, .int .i64 x.2]) := by rw [List.getElem?_map, hx]; rfl
    obtain ⟨x1, x2, x3⟩ := hsp x (List.mem_of_getElem? hx)
    have h' := h.app (boxesB ((l.take i).map (spanX (leafF LB))))
    have hH := hash_eqB (h'.rd LB.length) (by omega) x.2 x.1 0 x1 x2 x3
    obtain ⟨j, _, e | ⟨_, c, _⟩⟩ := hashP_tells h'.tells x.2 x.1 0 x1 x2 x3 (by omega)
    · rw [e] at hH
      have h32 := span32 h.small (x := x) ⟨x1, x2, x3⟩
      have hsl : (s ++ boxesB ((l.take i).map (spanX (leafF LB)))).length = s.length + i := by simp [boxesB]; omega
      have hf := freshM_eq .sh (spanX (leafF LB) x) h32 (s ++ boxesB ((l.take i).map (spanX (leafF LB))))
      rw [hsl] at hf
      have hnext : (s ++ boxesB ((l.take i).map (spanX (leafF LB)))) ++ [(spanX (leafF LB) x).map .u8] = s ++ boxesB ((l.take (i + 1)).map (spanX (leafF LB))) := by
        rw [List.take_add_one, hx]; simp [boxesB]
      rw [hnext] at hf
      simp only [logRd, logP] at hH
      have hSX : spanT nodeB (leafF LB) x.1 x.2 = spanX (leafF LB) x := rfl
      rw [hSX] at hH
      have w1 : IntKind.i64.wrap ((i : Int) + 1) = (i : Int) + 1 := wrap64 (by omega)
      have hrl := msRow_len 5 s.length i 32
      have hn1 : i + 1 ≤ most := by unfold most; omega
      have hrs := msRow_succ 5 s.length i 32
      have hall : allCells 1 (msRow 5 s.length i 32) := fun y hy => by
        obtain ⟨z, _, rfl⟩ := List.mem_map.1 hy
        exact ⟨rfl, fun c hc => by simp [AV.cells] at hc; subst hc; rfl⟩
      generalize hLs : l.map spanA = Ls at *
      generalize s ++ boxesB ((l.take i).map (spanX (leafF LB))) = S1 at *
      generalize hS2 : s ++ boxesB ((l.take (i + 1)).map (spanX (leafF LB))) = S2 at *
      generalize hRow : msRow 5 s.length i 32 = Row at *
      generalize spanX (leafF LB) x = X at *
      simp (maxSteps := 4000000) [List.getElem?_cons_zero, List.getElem?_cons_succ, -getElem?_pos, hc, hxs, hH, hf, w1, hrl, hall]
      repeat (rw [need_of]; rotate_left; (· (try unfold most); omega); simp (maxSteps := 4000000) [List.getElem?_cons_zero, List.getElem?_cons_succ, -getElem?_pos, hc, hxs, hH, hf, w1, hrl, hall])
      exact ⟨i + 1, by omega, by omega, ⟨by rw [hrs], by simp⟩, by rw [← hS2, List.map_take]⟩
    · cases c
  · have : i = l.length := by omega
    subst this
    rw [List.take_length]
    generalize s ++ boxesB (l.map (spanX (leafF LB))) = S2 at *
    generalize hRow : msRow 5 s.length l.length 32 = Row at *
    simp (maxSteps := 4000000) [List.getElem?_cons_zero, List.getElem?_cons_succ, hc, Tryz.results110]
section
variable {s : List (List AV)} {p q : Nat} {LB : List (List UInt8)}
theorem ProveM_eq (h : LogOf s p q LB) (i n : Int) (hn : n ≤ LB.length) :
    ev (100000 + 76) [.int .i64 i, .int .i64 n, .fb 11 [logP p]] s = some (.tup [.sl .sh (msRow 5 s.length (proveQ (leafF LB) i n).1.length 32), .int .i64 (proveQ (leafF LB) i n).2], s ++ boxesB (proveQ (leafF LB) i n).1) := by
  have hM := mayRecord_eq i n
  have hlen := h.len
  refine EV_post rfl Tryz.func76 rfl (by simp [Tryz.ntmps76]) (by kernel_rfl) (by kernel_rfl) ?_
  by_cases hc : 1 ≤ n ∧ 0 ≤ i ∧ i < n
  · obtain ⟨m, rfl⟩ := Int.eq_ofNat_of_zero_le (show 0 ≤ n by omega)
    obtain ⟨k, rfl⟩ := Int.eq_ofNat_of_zero_le (show 0 ≤ i by omega)
    have hP : proveQ (leafF LB) k m = ((pathN k 0 m).map (spanX (leafF LB)), 0) := by unfold proveQ; rw [if_pos hc]; rfl
    have hp : ∀ σ, ev 80 [.int .i64 k, .agg [.int .i64 0, .int .i64 m]] σ = some (.sl (.ex 113 2) ((pathN k 0 m).map spanA), σ) := path_eq m k 0 (by omega) (by omega) (by omega)
    have hh := hashesM_eq h (pathN k 0 m) (by have := pathN_le m k 0; omega) (fun x hx => pathN_ok m k 0 _ (algn_zero m) (by omega) x hx)
    rw [dT (by omega)] at hM
    simp only [logP] at hh ⊢
    rw [hP]
    simp only [List.length_map]
    generalize (pathN k 0 m).map spanA = Ls at *
    generalize (pathN k 0 m).map (spanX (leafF LB)) = X at *
    generalize msRow 5 s.length (pathN k 0 m).length 32 = R at *
    simp (maxSteps := 4000000) [List.getElem?_cons_zero, List.getElem?_cons_succ, hM, hp, hh, Tryz.results76]
  · have hP : proveQ (leafF LB) i n = ([], 6) := by unfold proveQ; rw [if_neg hc]
    rw [dF (by omega)] at hM
    simp (maxSteps := 4000000) [List.getElem?_cons_zero, List.getElem?_cons_succ, hM, hP, msRow, boxesB, Tryz.results76]
theorem ProveTreeM_eq (h : LogOf s p q LB) (m n : Int) (hn : n ≤ LB.length) :
    ev (100000 + 77) [.int .i64 m, .int .i64 n, .fb 11 [logP p]] s = some (.tup [.sl .sh (msRow 5 s.length (proveTQ (leafF LB) m n).1.length 32), .int .i64 (proveTQ (leafF LB) m n).2], s ++ boxesB (proveTQ (leafF LB) m n).1) := by
  have hM := mayTree_eq m n
  have hlen := h.len
  refine EV_post rfl Tryz.func77 rfl (by simp [Tryz.ntmps77]) (by kernel_rfl) (by kernel_rfl) ?_
  by_cases hc : 0 ≤ n ∧ 0 ≤ m ∧ m ≤ n
  · obtain ⟨b, rfl⟩ := Int.eq_ofNat_of_zero_le (show 0 ≤ n by omega)
    obtain ⟨a, rfl⟩ := Int.eq_ofNat_of_zero_le (show 0 ≤ m by omega)
    rw [dT (by omega)] at hM
    by_cases c1 : a = 0
    · have hP : proveTQ (leafF LB) a b = ([], 0) := by unfold proveTQ; rw [if_pos hc, if_pos (.inl (by omega))]
      subst c1
      have hM' : ∀ σ, ev 83 [.int .i64 0, .int .i64 b] σ = some (.bool true, σ) := hM
      have hP' : proveTQ (leafF LB) 0 b = ([], 0) := hP
      simp (maxSteps := 4000000) [List.getElem?_cons_zero, List.getElem?_cons_succ, hM', hP', msRow, boxesB, Tryz.results77]
    · by_cases c2 : a = b
      · have hP : proveTQ (leafF LB) a b = ([], 0) := by unfold proveTQ; rw [if_pos hc, if_pos (.inr (by omega))]
        subst c2
        simp (maxSteps := 4000000) [List.getElem?_cons_zero, List.getElem?_cons_succ, hM, c1, hP, msRow, boxesB, Tryz.results77]
      · have hP : proveTQ (leafF LB) a b = ((subN a 0 b true).map (spanX (leafF LB)), 0) := by unfold proveTQ; rw [if_pos hc, if_neg (by omega)]; rfl
        have hp : ∀ σ, ev 84 [.int .i64 a, .agg [.int .i64 0, .int .i64 b], .bool true] σ = some (.sl (.ex 113 2) ((subN a 0 b true).map spanA), σ) := subproof_eq b a 0 true (by omega) (by omega) (by omega)
        have hh := hashesM_eq h (subN a 0 b true) (by have := subN_le b a 0 true; omega) (fun x hx => subN_ok b a 0 _ true (by omega) (algn_zero b) (by omega) x hx)
        simp only [logP] at hh ⊢
        rw [hP]
        simp only [List.length_map]
        generalize (subN a 0 b true).map spanA = Ls at *
        generalize (subN a 0 b true).map (spanX (leafF LB)) = X at *
        generalize msRow 5 s.length (subN a 0 b true).length 32 = R at *
        simp (maxSteps := 4000000) [List.getElem?_cons_zero, List.getElem?_cons_succ, hM, c1, c2, hp, hh, Tryz.results77]
  · have hP : proveTQ (leafF LB) m n = ([], 6) := by unfold proveTQ; rw [if_neg hc]
    rw [dF (by omega)] at hM
    simp (maxSteps := 4000000) [List.getElem?_cons_zero, List.getElem?_cons_succ, hM, hP, msRow, boxesB, Tryz.results77]
theorem LogOf.proveM (h : LogOf s p q LB) (i n : Int) :
    ev (100000 + 36) [logP p, .int .i64 i, .int .i64 n] s = some (.tup [.sl .sh (msRow 5 s.length (lproveQ LB i n).1.length 32), .int .i64 (lproveQ LB i n).2], s ++ boxesB (lproveQ LB i n).1) := by
  have hS := h.size
  simp only [logP] at hS ⊢
  refine EV_post rfl Tryz.func36 rfl (by simp [Tryz.ntmps36]) (by kernel_rfl) (by kernel_rfl) ?_
  by_cases hc : (LB.length : Int) < n
  · have hP : lproveQ LB i n = ([], 6) := by unfold lproveQ; rw [if_pos hc]
    simp (maxSteps := 4000000) [List.getElem?_cons_zero, List.getElem?_cons_succ, hS, hc, hP, msRow, boxesB, Tryz.results36]
  · have hP : lproveQ LB i n = proveQ (leafF LB) i n := by unfold lproveQ; rw [if_neg hc]
    have hR := ProveM_eq h i n (by omega)
    simp only [logP] at hR
    rw [hP]
    generalize msRow 5 s.length (proveQ (leafF LB) i n).1.length 32 = R at *
    simp (maxSteps := 4000000) [List.getElem?_cons_zero, List.getElem?_cons_succ, hS, hc, hR, Tryz.results36]
theorem LogOf.proveTM (h : LogOf s p q LB) (m n : Int) :
    ev (100000 + 37) [logP p, .int .i64 m, .int .i64 n] s = some (.tup [.sl .sh (msRow 5 s.length (lproveTQ LB m n).1.length 32), .int .i64 (lproveTQ LB m n).2], s ++ boxesB (lproveTQ LB m n).1) := by
  have hS := h.size
  simp only [logP] at hS ⊢
  refine EV_post rfl Tryz.func37 rfl (by simp [Tryz.ntmps37]) (by kernel_rfl) (by kernel_rfl) ?_
  by_cases hc : (LB.length : Int) < n
  · have hP : lproveTQ LB m n = ([], 6) := by unfold lproveTQ; rw [if_pos hc]
    simp (maxSteps := 4000000) [List.getElem?_cons_zero, List.getElem?_cons_succ, hS, hc, hP, msRow, boxesB, Tryz.results37]
  · have hP : lproveTQ LB m n = proveTQ (leafF LB) m n := by unfold lproveTQ; rw [if_neg hc]
    have hR := ProveTreeM_eq h m n (by omega)
    simp only [logP] at hR
    rw [hP]
    generalize msRow 5 s.length (proveTQ (leafF LB) m n).1.length 32 = R at *
    simp (maxSteps := 4000000) [List.getElem?_cons_zero, List.getElem?_cons_succ, hS, hc, hR, Tryz.results37]
end
end Go.Proofs.Tryz.Ai
end
section
/- A log's proofs with their rights (printed out of TL20). -/
namespace Go.Proofs.Tryz.Ai
open Go Go.AI Go.Proofs
set_option maxHeartbeats 1000000
set_option linter.unusedVariables false

theorem hashesMR_eq {s : List (List AV)} {p q : Nat} {LB : List (List UInt8)} (h : LogOf s p q LB) (l : List (Nat × Nat)) (hl : l.length ≤ 2 ^ 30) (hsp : ∀ x ∈ l, spanOk LB.length x) :
    ev (200000 + 110) [.sl .sh (l.map spanA), .fb 11 [logP p]] s = some (.tup [.sl (.ex 35 1) (msRow 5 s.length l.length 32), .int .i64 0], s ++ boxesB (l.map (spanX (leafF LB)))) := by
  have hlen := h.len
  refine EV_post rfl Tryz.func110 rfl (by simp [Tryz.ntmps110]) (by kernel_rfl) (by kernel_rfl) ?_
  simp only [logP]
  simp (maxSteps := 4000000) [List.getElem?_cons_zero, List.getElem?_cons_succ, ]
  refine Post_loop (I := fun i : Nat => ⟨[(1, .fb 11 [.gp p 0 (some (80, 1))]), (6, .sl (.ex 35 1) (msRow 5 s.length i 32)), (11, .sl .sh (l.map spanA)), (12, .int .i64 l.length), (13, .int .i64 i)], [], s ++ boxesB ((l.take i).map (spanX (leafF LB)))⟩) (Pr := fun i => i ≤ l.length) (μ := fun i => l.length - i) (a := 0) (by simp [msRow, boxesB]) (Nat.zero_le _) ?_
  intro i hi
  by_cases hc : i < l.length
  · obtain ⟨x, hx⟩ : ∃ x, l[i]? = some x := ⟨_, List.getElem?_eq_getElem hc⟩
    have hxs : (l.map spanA)[i]? = some (.agg [.int .i64 x.1, .int .i64 x.2]) := by rw [List.getElem?_map, hx]; rfl
    obtain ⟨x1, x2, x3⟩ := hsp x (List.mem_of_getElem? hx)
    have h' := h.app (boxesB ((l.take i).map (spanX (leafF LB))))
    have hH := hash_eqB (h'.rd LB.length) (by omega) x.2 x.1 0 x1 x2 x3
    obtain ⟨j, _, e | ⟨_, c, _⟩⟩ := hashP_tells h'.tells x.2 x.1 0 x1 x2 x3 (by omega)
    · rw [e] at hH
      have h32 := span32 h.small (x := x) ⟨x1, x2, x3⟩
      have hsl : (s ++ boxesB ((l.take i).map (spanX (leafF LB)))).length = s.length + i := by simp [boxesB]; omega
      have hf := freshM_eq .sh (spanX (leafF LB) x) h32 (s ++ boxesB ((l.take i).map (spanX (leafF LB))))
      rw [hsl] at hf
      have hnext : (s ++ boxesB ((l.take i).map (spanX (leafF LB)))) ++ [(spanX (leafF LB) x).map .u8] = s ++ boxesB ((l.take (i + 1)).map (spanX (leafF LB))) := by
        rw [List.take_add_one, hx]; simp [boxesB]
      rw [hnext] at hf
      simp only [logRd, logP] at hH
      have hSX : spanT nodeB (leafF LB) x.1 x.2 = spanX (leafF LB) x := rfl
      rw [hSX] at hH
      have w1 : IntKind.i64.wrap ((i : Int) + 1) = (i : Int) + 1 := wrap64 (by omega)
      have hrl := msRow_len 5 s.length i 32
      have hn1 : i + 1 ≤ most := by unfold most; omega
      have hrs := msRow_succ 5 s.length i 32
      have hall : allCells 1 (msRow 5 s.length i 32) := fun y hy => by
        obtain ⟨z, _, rfl⟩ := List.mem_map.1 hy
        exact ⟨rfl, fun c hc => by simp [AV.cells] at hc; subst hc; rfl⟩
      generalize hLs : l.map spanA = Ls at *
      generalize s ++ boxesB ((l.take i).map (spanX (leafF LB))) = S1 at *
      generalize hS2 : s ++ boxesB ((l.take (i + 1)).map (spanX (leafF LB))) = S2 at *
      generalize hRow : msRow 5 s.length i 32 = Row at *
      generalize spanX (leafF LB) x = X at *
      simp (maxSteps := 4000000) [List.getElem?_cons_zero, List.getElem?_cons_succ, -getElem?_pos, hc, hxs, hH, hf, w1, hrl, hall]
      repeat (rw [need_of]; rotate_left; (· (try unfold most); omega); simp (maxSteps := 4000000) [List.getElem?_cons_zero, List.getElem?_cons_succ, -getElem?_pos, hc, hxs, hH, hf, w1, hrl, hall])
      exact ⟨i + 1, by omega, by omega, ⟨by rw [hrs], by simp⟩, by rw [← hS2, List.map_take]⟩
    · cases c
  · have : i = l.length := by omega
    subst this
    rw [List.take_length]
    generalize s ++ boxesB (l.map (spanX (leafF LB))) = S2 at *
    generalize hRow : msRow 5 s.length l.length 32 = Row at *
    simp (maxSteps := 4000000) [List.getElem?_cons_zero, List.getElem?_cons_succ, hc, Tryz.results110]
section
variable {s : List (List AV)} {p q : Nat} {LB : List (List UInt8)}
theorem ProveMR_eq (h : LogOf s p q LB) (i n : Int) (hn : n ≤ LB.length) :
    ev (200000 + 76) [.int .i64 i, .int .i64 n, .fb 11 [logP p]] s = some (.tup [.sl (.ex 35 1) (msRow 5 s.length (proveQ (leafF LB) i n).1.length 32), .int .i64 (proveQ (leafF LB) i n).2], s ++ boxesB (proveQ (leafF LB) i n).1) := by
  have hM := mayRecord_eq i n
  have hlen := h.len
  refine EV_post rfl Tryz.func76 rfl (by simp [Tryz.ntmps76]) (by kernel_rfl) (by kernel_rfl) ?_
  by_cases hc : 1 ≤ n ∧ 0 ≤ i ∧ i < n
  · obtain ⟨m, rfl⟩ := Int.eq_ofNat_of_zero_le (show 0 ≤ n by omega)
    obtain ⟨k, rfl⟩ := Int.eq_ofNat_of_zero_le (show 0 ≤ i by omega)
    have hP : proveQ (leafF LB) k m = ((pathN k 0 m).map (spanX (leafF LB)), 0) := by unfold proveQ; rw [if_pos hc]; rfl
    have hp : ∀ σ, ev 80 [.int .i64 k, .agg [.int .i64 0, .int .i64 m]] σ = some (.sl (.ex 113 2) ((pathN k 0 m).map spanA), σ) := path_eq m k 0 (by omega) (by omega) (by omega)
    have hh := hashesMR_eq h (pathN k 0 m) (by have := pathN_le m k 0; omega) (fun x hx => pathN_ok m k 0 _ (algn_zero m) (by omega) x hx)
    rw [dT (by omega)] at hM
    simp only [logP] at hh ⊢
    rw [hP]
    simp only [List.length_map]
    generalize (pathN k 0 m).map spanA = Ls at *
    generalize (pathN k 0 m).map (spanX (leafF LB)) = X at *
    generalize msRow 5 s.length (pathN k 0 m).length 32 = R at *
    simp (maxSteps := 4000000) [List.getElem?_cons_zero, List.getElem?_cons_succ, hM, hp, hh, Tryz.results76]
  · have hP : proveQ (leafF LB) i n = ([], 6) := by unfold proveQ; rw [if_neg hc]
    rw [dF (by omega)] at hM
    simp (maxSteps := 4000000) [List.getElem?_cons_zero, List.getElem?_cons_succ, hM, hP, msRow, boxesB, Tryz.results76]
theorem LogOf.proveMR (h : LogOf s p q LB) (i n : Int) :
    ev (200000 + 36) [logP p, .int .i64 i, .int .i64 n] s = some (.tup [.sl (.ex 35 1) (msRow 5 s.length (lproveQ LB i n).1.length 32), .int .i64 (lproveQ LB i n).2], s ++ boxesB (lproveQ LB i n).1) := by
  have hS := h.size
  simp only [logP] at hS ⊢
  refine EV_post rfl Tryz.func36 rfl (by simp [Tryz.ntmps36]) (by kernel_rfl) (by kernel_rfl) ?_
  by_cases hc : (LB.length : Int) < n
  · have hP : lproveQ LB i n = ([], 6) := by unfold lproveQ; rw [if_pos hc]
    simp (maxSteps := 4000000) [List.getElem?_cons_zero, List.getElem?_cons_succ, hS, hc, hP, msRow, boxesB, Tryz.results36]
  · have hP : lproveQ LB i n = proveQ (leafF LB) i n := by unfold lproveQ; rw [if_neg hc]
    have hR := ProveMR_eq h i n (by omega)
    simp only [logP] at hR
    rw [hP]
    generalize msRow 5 s.length (proveQ (leafF LB) i n).1.length 32 = R at *
    simp (maxSteps := 4000000) [List.getElem?_cons_zero, List.getElem?_cons_succ, hS, hc, hR, Tryz.results36]
end
end Go.Proofs.Tryz.Ai
end
