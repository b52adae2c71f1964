/- Part 7 of a proof: a Go function is evaluated on abstract values (texts PlDec .. FHeadsB); no conditions beyond those of each theorem. -/
import Derived.Test.YtkafjfkkangooaaGreatDoorAi6
import Derived.Lib.AtoiAllCases
import Derived.Test.YtkafjfkkangooaaGreatDoorCards
import Derived.Test.YtkafjfkkangooaaGreatDoorTie
import Derived.WalkKit
import Derived.ProofKit
import Derived.OpenShut
import Derived.Below
import Derived.ChangeOld
import Derived.Deep.DeepHandedRow
import Derived.Lib.LaidTab
import Derived.Lay
import Derived.MakeChecks
set_option linter.all false
set_option linter.unusedVariables false
set_option linter.unusedSimpArgs false
set_option linter.unnecessarySimpa false
section
/- Numbers and their digits: plain. -/
namespace Go.AI
theorem dec_small {n : Nat} (h : n < 10) : Lib.decDigits n = [UInt8.ofNat (48 + n)] := Lib.decDigits_one h
theorem dec_big {n : Nat} (h : ¬ n < 10) : Lib.decDigits n = Lib.decDigits (n / 10) ++ [UInt8.ofNat (48 + n % 10)] := by
  rw [Lib.decDigits, dif_neg h]
theorem dig_nat {k : Nat} (h : k < 10) : (UInt8.ofNat (48 + k)).toNat = 48 + k := by
  rw [UInt8.toNat_ofNat_of_lt' (by show 48 + k < 256; omega)]
theorem dig_isD {k : Nat} (h : k < 10) : isD (UInt8.ofNat (48 + k)) = true := by
  unfold isD; rw [dig_nat h]; simp; omega
theorem dec_all (n : Nat) : (Lib.decDigits n).all isD = true := by
  induction n using Nat.strongRecOn with
  | _ n ih =>
    by_cases h : n < 10
    · rw [dec_small h]; simp only [List.all_cons, List.all_nil, dig_isD h, Bool.and_true]
    · rw [dec_big h, List.all_append, ih _ (by omega)]
      simp only [List.all_cons, List.all_nil, dig_isD (show n % 10 < 10 by omega), Bool.and_true]
theorem dec_val (n : Nat) : valB (Lib.decDigits n) = n := by
  induction n using Nat.strongRecOn with
  | _ n ih =>
    by_cases h : n < 10
    · rw [dec_small h]
      have : valB [UInt8.ofNat (48 + n)] = (UInt8.ofNat (48 + n)).toNat - 48 := by simp [valB]
      rw [this, dig_nat h]; omega
    · rw [dec_big h, valB_snoc, ih _ (by omega), dig_nat (by omega)]; omega
theorem dec_ne (n : Nat) : Lib.decDigits n ≠ [] := by
  by_cases h : n < 10
  · rw [dec_small h]; simp
  · rw [dec_big h]; simp
theorem dec_head (n : Nat) (h0 : 0 < n) : ∃ c r, Lib.decDigits n = c :: r ∧ c ≠ 48 := by
  induction n using Nat.strongRecOn with
  | _ n ih =>
    by_cases h : n < 10
    · refine ⟨_, [], dec_small h, fun e => ?_⟩
      have := congrArg UInt8.toNat e
      rw [dig_nat h] at this
      have h48 : (48 : UInt8).toNat = 48 := rfl
      omega
    · obtain ⟨c, r, h1, h2⟩ := ih (n / 10) (by omega) (by omega)
      exact ⟨c, r ++ [UInt8.ofNat (48 + n % 10)], by rw [dec_big h, h1]; rfl, h2⟩
theorem dec_plain (n : Nat) : plainB (Lib.decDigits n) = true := by
  by_cases h : n < 10
  · rw [dec_small h]; simp [plainB]
  · obtain ⟨c, r, h1, h2⟩ := dec_head n (by omega)
    rw [h1]; simp [plainB, h2]
theorem dec_inj {m n : Nat} (h : Lib.decDigits m = Lib.decDigits n) : m = n := by rw [← dec_val m, h, dec_val]
theorem numB_dec (n : Nat) : numB (Lib.decDigits n) = if n < 1000000000 then some n else none := by
  by_cases h : n < 1000000000
  · rw [if_pos h]
    have hl := decDigits_len 8 n (by omega)
    have hok : numOk (Lib.decDigits n) = true := by
      simp only [numOk, allB, dec_all, dec_plain, Bool.true_and, Bool.and_true, Bool.and_eq_true, decide_eq_true_eq, Bool.not_eq_true']
      refine ⟨?_, by omega⟩
      have := dec_ne n
      cases hd : Lib.decDigits n with
      | nil => exact absurd hd this
      | cons a r => rfl
    unfold numB
    rw [if_pos hok, dec_val]
  · rw [if_neg h]
    cases hn : numB (Lib.decDigits n) with
    | none => rfl
    | some m =>
      have h1 := numB_lt hn
      have h2 := dec_inj (numB_digits hn)
      omega
theorem dec_no (c : UInt8) (hc : isD c = false) (n : Nat) : c ∉ Lib.decDigits n := fun h => by
  have := List.all_eq_true.1 (dec_all n) c h
  rw [hc] at this; cases this
theorem pu10 : ∀ (s : List UInt8) (acc : Nat), s.all isD = true → (acc + 1) * 10 ^ s.length ≤ 10 ^ 18 → Lib.parseUint10 acc s = .ok (s.foldl (fun n c => n * 10 + (c.toNat - 48)) acc)
  | [], acc, _, _ => rfl
  | c :: r, acc, h, hb => by
    rw [List.all_cons, Bool.and_eq_true] at h
    have hd : 48 ≤ c.toNat ∧ c.toNat ≤ 57 := of_decide_eq_true h.1
    have hp : 0 < 10 ^ r.length := Nat.pow_pos (by omega)
    have e : (acc + 1) * 10 ^ (c :: r).length = ((acc + 1) * 10) * 10 ^ r.length := by rw [List.length_cons, Nat.pow_succ, Nat.mul_assoc, Nat.mul_comm (10 ^ r.length) 10]
    rw [e] at hb
    have h1 : (acc + 1) * 10 ≤ 10 ^ 18 := Nat.le_trans (Nat.le_mul_of_pos_right _ hp) hb
    have h2 : (acc * 10 + (c.toNat - 48) + 1) * 10 ^ r.length ≤ 10 ^ 18 := Nat.le_trans (Nat.mul_le_mul_right _ (by omega)) hb
    rw [Lib.parseUint10, if_pos hd, if_neg (by omega), if_neg (by omega), pu10 r _ h.2 h2]
    rfl
theorem digs_atoi (s : List UInt8) (ha : s.all isD = true) (h0 : s ≠ []) (hl : s.length ≤ 17) : Lib.atoiAll s = .ok (valB s : Int) := by
  cases s with
  | nil => exact absurd rfl h0
  | cons c r =>
    have hv := valB_lt (c :: r) ha
    have hp17 : 10 ^ (c :: r).length ≤ 10 ^ 17 := Nat.pow_le_pow_right (by omega) hl
    have hp := pu10 (c :: r) 0 ha (by rw [Nat.zero_add, Nat.one_mul]; exact Nat.le_trans hp17 (by omega))
    have hd : isD c = true := by rw [List.all_cons, Bool.and_eq_true] at ha; exact ha.1
    have hd2 : 48 ≤ c.toNat ∧ c.toNat ≤ 57 := of_decide_eq_true hd
    rw [Lib.atoiAll_plain c r (by omega) (by omega)]
    unfold Lib.parseMag
    rw [if_neg (by simp), hp]
    have : (c :: r).foldl (fun n c => n * 10 + (c.toNat - 48)) 0 = valB (c :: r) := rfl
    rw [this]
    show (if 9223372036854775808 ≤ valB (c :: r) then Lib.NumEnd.range else Lib.NumEnd.ok ((valB (c :: r) : Nat) : Int)) = _
    rw [if_neg (by omega)]
theorem atoiAll_dec (n : Nat) (h : n < 10 ^ 17) : Lib.atoiAll (Lib.decDigits n) = .ok (n : Int) := by
  have := digs_atoi (Lib.decDigits n) (dec_all n) (dec_ne n) (decDigits_len 16 n h)
  rw [dec_val] at this; exact this
theorem valB_app (a b : List UInt8) : valB (a ++ b) = valB a * 10 ^ b.length + valB b := by
  refine snocInd (P := fun b => valB (a ++ b) = valB a * 10 ^ b.length + valB b) ?_ ?_ b
  · simp [valB]
  · intro l c ih
    rw [← List.append_assoc, valB_snoc, ih, valB_snoc, List.length_append, List.length_singleton, Nat.pow_succ, Nat.add_mul, Nat.mul_assoc]
    omega
end Go.AI
end
section
/- Heads are read, on both sides. -/
namespace Go.Proofs.Tryz.Ai
open Go Go.AI Go.Proofs Go.B64
set_option maxHeartbeats 8000000
set_option maxRecDepth 4000
set_option linter.unusedVariables false

theorem Post_mono {x : Option (Ex × St)} {K1 K : Ex → St → Prop} (h : Post x K1) (k : ∀ e s, K1 e s → K e s) : Post x K := by
  obtain ⟨e, s, h1, h2⟩ := h; exact ⟨e, s, h1, k e s h2⟩
theorem rAtoi_dec (n : Nat) (hn : n < 10 ^ 9) (σ) : ev 58 [.str (Lib.decDigits n)] σ = some (.tup [.int .i64 n, .bool true], σ) := by
  have h1 := dec_all n
  have h2 := dec_plain n
  have h3 := decDigits_len 8 n (by omega)
  have h0 := dec_val n
  obtain ⟨s, hs⟩ : ∃ s, Lib.decDigits n = s := ⟨_, rfl⟩
  rw [hs] at h0 h1 h2 h3 ⊢
  rw [← h0]
  clear hs h0
  obtain ⟨c0, r0, hs0⟩ : ∃ c r, s = c :: r := by cases s with
    | nil => simp [plainB] at h2
    | cons c r => exact ⟨c, r, rfl⟩
  have hd0 : isD c0 = true := by rw [hs0] at h1; simp at h1; exact h1.1
  have g0 : s[0]? = some c0 := by rw [hs0]; rfl
  have e1 : ¬ c0 = 45 := by rintro rfl; revert hd0; decide
  have n2 : s.isEmpty = false := by rw [hs0]; rfl
  have n3 : ¬ 19 < s.length := by omega
  have n4 : 1 < s.length → ¬ c0 = 48 := by
    intro h e
    rw [hs0] at h h2
    simp [plainB, e] at h2
    rw [h2] at h; simp at h
  refine EV_post rfl Tryz.func58 rfl (by simp [Tryz.ntmps58]) (by kernel_rfl) (by kernel_rfl) ?_
  refine Post_mono (K1 := fun e st => finE Tryz.prog (H 58) σ Tryz.f58 (some (e, st)) = some (.tup [.int .i64 (valB s), .bool true], σ)) ?_ (fun e st h => h)
  by_cases n5 : 1 < s.length
  all_goals
    first
      | simp (maxSteps := 4000000) [List.getElem?_cons_zero, List.getElem?_cons_succ, -getElem?_pos, n2, n3, n5, g0, e1, n4 n5]
      | simp (maxSteps := 4000000) [List.getElem?_cons_zero, List.getElem?_cons_succ, -getElem?_pos, n2, n3, n5, g0, e1]
    refine Post_loop (I := fun i : Nat => ⟨[(4, .bool false), (5, .str s), (6, .int .i64 (-(valB (s.take i) : Int))), (7, .int .i64 i)], [], σ⟩) (Pr := fun i => i ≤ s.length) (μ := fun i => s.length - i) (a := 0) (by simp [valB]) (by simp) ?_
    intro i hi
    by_cases hc : i < s.length
    · obtain ⟨c, hcx⟩ : ∃ c, s[i] = c := ⟨_, rfl⟩
      have hx : s[i]? = some c := by rw [← hcx]; exact List.getElem?_eq_getElem hc
      have hd : isD c = true := by rw [← hcx]; exact List.all_eq_true.1 h1 _ (List.getElem_mem hc)
      have hd2 : 48 ≤ c.toNat ∧ c.toNat ≤ 57 := of_decide_eq_true hd
      have z1 : ¬ c.toNat < 48 := by omega
      have z2 : ¬ 57 < c.toNat := by omega
      have w1 : IntKind.u8.wrap ((c.toNat : Int) - 48) = ((c.toNat - 48 : Nat) : Int) := by rw [wrapU8 (by omega)]; omega
      have hall : (s.take i).all isD = true := by rw [List.all_eq_true]; intro x hx; exact List.all_eq_true.1 h1 _ (List.mem_of_mem_take hx)
      have hv := valB_lt _ hall
      have hv2 : (10 : Nat) ^ (s.take i).length ≤ 10 ^ 9 := Nat.pow_le_pow_right (by omega) (by simp; omega)
      obtain ⟨v, hvv⟩ : ∃ v, valB (s.take i) = v := ⟨_, rfl⟩
      rw [hvv] at hv
      obtain ⟨w, hw⟩ : ∃ w : Int, -(v : Int) = w := ⟨_, rfl⟩
      obtain ⟨d, hdd⟩ : ∃ d, c.toNat - 48 = d := ⟨_, rfl⟩
      rw [hdd] at w1
      have w4 : IntKind.i64.wrap (d : Int) = d := wrap64 (by omega)
      have w5 : IntKind.i64.wrap (-9223372036854775808 + (d : Int)) = -9223372036854775808 + (d : Int) := wrap64 (by omega)
      have w6 : IntKind.i64.wrap ((i : Int) + 1) = (i : Int) + 1 := wrap64 (by omega)
      obtain ⟨u, hu⟩ : ∃ u, (-9223372036854775808 + (d : Int)).tdiv 10 = u := ⟨_, rfl⟩
      have hu2 : -922337203685477581 ≤ u ∧ u ≤ -922337203685477579 := by
        rw [← hu, show (-9223372036854775808 + (d : Int)) = -(9223372036854775808 - (d : Int)) by omega, Int.neg_tdiv, Int.tdiv_eq_ediv_of_nonneg (by omega)]; omega
      have w7 : ¬ w < u := by omega
      have wa : IntKind.i64.wrap u = u := wrap64 (by omega)
      have w8 : IntKind.i64.wrap (10 * w) = 10 * w := wrap64 (by omega)
      have w9 : IntKind.i64.wrap (10 * w - (d : Int)) = 10 * w - (d : Int) := wrap64 (by omega)
      have hn : valB (s.take (i + 1)) = v * 10 + d := by rw [List.take_succ_eq_append_getElem hc, valB_snoc, hvv, hcx, hdd]
      simp (maxSteps := 4000000) [List.getElem?_cons_zero, List.getElem?_cons_succ, -getElem?_pos, hc, hx, hvv, hw, z1, z2, w1, w4, w5, w6, hu, wa, w7, w8, w9]
      exact ⟨i + 1, by omega, by omega, by rw [hn]; simp; omega, by simp⟩
    · have hi' : i = s.length := by omega
      subst hi'
      have hv := valB_lt _ h1
      have hv2 : (10 : Nat) ^ s.length ≤ 10 ^ 9 := Nat.pow_le_pow_right (by omega) (by omega)
      have w1 : ¬ (-(valB s : Int)) = -9223372036854775808 := by omega
      have w2 : IntKind.i64.wrap (0 - -(valB s : Int)) = (valB s : Int) := by rw [wrap64 (by omega)]; omega
      have w2' : IntKind.i64.wrap (valB s : Int) = (valB s : Int) := wrap64 (by omega)
      have w3 : ¬ (valB s : Int) = 9223372036854775808 := by omega
      simp (maxSteps := 4000000) [List.getElem?_cons_zero, List.getElem?_cons_succ, hc, w1, w2, w2', w3, Tryz.results58]
/-- a number and whether it is one -/
def isIB (σ : List (List AV)) (r : AV × List (List AV)) : Prop := ∃ (v : Int) (b : Bool), r = (.tup [.int .i64 v, .bool b], σ)
@[simp] theorem isIB_mk (σ : List (List AV)) (v : Int) (b : Bool) : isIB σ (.tup [.int .i64 v, .bool b], σ) := ⟨v, b, rfl⟩
@[simp] theorem exIB {σ σ' : List (List AV)} {x : AV} : (∃ a b, (x = a ∧ σ' = b) ∧ isIB σ (a, b)) ↔ isIB σ (x, σ') := ⟨fun ⟨a, b, ⟨h1, h2⟩, h⟩ => by rw [h1, h2]; exact h, fun h => ⟨_, _, ⟨rfl, rfl⟩, h⟩⟩
/-- the reference's Atoi answers, whatever it is given -/
theorem rAtoi_any (s : List UInt8) (hs : s.length ≤ 2 ^ 30) (σ : List (List AV)) : ∃ (v : Int) (b : Bool), ev 58 [.str s] σ = some (.tup [.int .i64 v, .bool b], σ) := by
  suffices hx : ∃ r : AV × List (List AV), ev 58 [.str s] σ = some r ∧ isIB σ r by
    obtain ⟨r, h1, v, b, rfl⟩ := hx
    exact ⟨v, b, h1⟩
  by_cases n1 : 1 < s.length ∧ s[0]? = some 45
  · obtain ⟨n1a, n1b⟩ := n1
    obtain ⟨d, hd⟩ : ∃ d, s.drop 1 = d := ⟨_, rfl⟩
    have hd2 : s.tail = d := by rw [← hd, List.drop_one]
    have hdl : d.length ≤ s.length := by rw [← hd]; simp
    have h1l : 1 ≤ s.length := by omega
    refine EV_postE rfl Tryz.func58 rfl (by simp [Tryz.ntmps58]) (by kernel_rfl) (by kernel_rfl) ?_
    by_cases e1 : d = []
    · have e1' : d.isEmpty = true := by rw [e1]; rfl
      simp (maxSteps := 4000000) [List.getElem?_cons_zero, List.getElem?_cons_succ, -getElem?_pos, n1a, n1b, h1l, hd, hd2, e1', Tryz.results58]
    · have e1' : d.isEmpty = false := by cases d with | nil => exact absurd rfl e1 | cons a b => rfl
      obtain ⟨c1, hc1⟩ : ∃ c, d[0]? = some c := by cases d with | nil => exact absurd rfl e1 | cons a b => exact ⟨a, rfl⟩
      by_cases e2 : 19 < d.length
      · simp (maxSteps := 4000000) [List.getElem?_cons_zero, List.getElem?_cons_succ, -getElem?_pos, n1a, n1b, h1l, hd, hd2, e1', e2, Tryz.results58]
      · by_cases e3 : 1 < d.length ∧ c1 = 48
        · have e3a := e3.1
          have e3b := e3.2
          subst e3b
          simp (maxSteps := 4000000) [List.getElem?_cons_zero, List.getElem?_cons_succ, -getElem?_pos, n1a, n1b, h1l, hd, hd2, e1', e2, e3a, hc1, Tryz.results58]
        · by_cases e5 : d = [48]
          · have e5' : (d == [48]) = true := by simpa using e5
            subst e5
            simp (maxSteps := 4000000) [List.getElem?_cons_zero, List.getElem?_cons_succ, n1a, n1b, h1l, hd, hd2, Tryz.results58]
          · have e5' : (d == [48]) = false := by simpa using e5
            by_cases e3a : 1 < d.length
            · have e3b : ¬ c1 = 48 := fun e => e3 ⟨e3a, e⟩
              simp (maxSteps := 4000000) [List.getElem?_cons_zero, List.getElem?_cons_succ, -getElem?_pos, n1a, n1b, h1l, hd, hd2, e1', e2, e3a, hc1, e3b, e5']
              refine Post_loop (I := fun p : Int × Nat => ⟨[(4, .bool true), (5, .str d), (6, .int .i64 p.1), (7, .int .i64 p.2)], [], σ⟩) (Pr := fun p => p.2 ≤ d.length) (μ := fun p => d.length - p.2) (a := (0, 0)) (by simp) (by simp) ?_
              rintro ⟨m, i⟩ hi
              simp only at hi ⊢
              by_cases hc : i < d.length
              · obtain ⟨c, hx⟩ : ∃ c, d[i]? = some c := ⟨_, List.getElem?_eq_getElem hc⟩
                by_cases z1 : c.toNat < 48
                · simp (maxSteps := 4000000) [List.getElem?_cons_zero, List.getElem?_cons_succ, -getElem?_pos, hc, hx, z1, Tryz.results58]
                · by_cases z2 : 57 < c.toNat
                  · simp (maxSteps := 4000000) [List.getElem?_cons_zero, List.getElem?_cons_succ, -getElem?_pos, hc, hx, z1, z2, Tryz.results58]
                  · have w1 : IntKind.u8.wrap ((c.toNat : Int) - 48) = ((c.toNat - 48 : Nat) : Int) := by rw [wrapU8 (by omega)]; omega
                    obtain ⟨x, hxx⟩ : ∃ x, c.toNat - 48 = x := ⟨_, rfl⟩
                    rw [hxx] at w1
                    have w4 : IntKind.i64.wrap (x : Int) = x := wrap64 (by omega)
                    have w6 : IntKind.i64.wrap ((i : Int) + 1) = (i : Int) + 1 := wrap64 (by omega)
                    obtain ⟨y, hy⟩ : ∃ y, IntKind.i64.wrap (-9223372036854775808 + (x : Int)) = y := ⟨_, rfl⟩
                    obtain ⟨z, hz⟩ : ∃ z, IntKind.i64.wrap (y.tdiv 10) = z := ⟨_, rfl⟩
                    obtain ⟨v, hv⟩ : ∃ v, IntKind.i64.wrap (10 * m) = v := ⟨_, rfl⟩
                    obtain ⟨u, hu⟩ : ∃ u, IntKind.i64.wrap (v - (x : Int)) = u := ⟨_, rfl⟩
                    by_cases z3 : m < z
                    · simp (maxSteps := 4000000) [List.getElem?_cons_zero, List.getElem?_cons_succ, -getElem?_pos, hc, hx, z1, z2, w1, w4, hy, hz, z3, Tryz.results58]
                    · simp (maxSteps := 4000000) [List.getElem?_cons_zero, List.getElem?_cons_succ, -getElem?_pos, hc, hx, z1, z2, w1, w4, hy, hz, z3, hv, hu, w6]
                      exact ⟨u, i + 1, by omega, by omega, rfl, by simp⟩
              · simp (maxSteps := 4000000) [List.getElem?_cons_zero, List.getElem?_cons_succ, hc, Tryz.results58]
            · simp (maxSteps := 4000000) [List.getElem?_cons_zero, List.getElem?_cons_succ, -getElem?_pos, n1a, n1b, h1l, hd, hd2, e1', e2, e3a, e5']
              refine Post_loop (I := fun p : Int × Nat => ⟨[(4, .bool true), (5, .str d), (6, .int .i64 p.1), (7, .int .i64 p.2)], [], σ⟩) (Pr := fun p => p.2 ≤ d.length) (μ := fun p => d.length - p.2) (a := (0, 0)) (by simp) (by simp) ?_
              rintro ⟨m, i⟩ hi
              simp only at hi ⊢
              by_cases hc : i < d.length
              · obtain ⟨c, hx⟩ : ∃ c, d[i]? = some c := ⟨_, List.getElem?_eq_getElem hc⟩
                by_cases z1 : c.toNat < 48
                · simp (maxSteps := 4000000) [List.getElem?_cons_zero, List.getElem?_cons_succ, -getElem?_pos, hc, hx, z1, Tryz.results58]
                · by_cases z2 : 57 < c.toNat
                  · simp (maxSteps := 4000000) [List.getElem?_cons_zero, List.getElem?_cons_succ, -getElem?_pos, hc, hx, z1, z2, Tryz.results58]
                  · have w1 : IntKind.u8.wrap ((c.toNat : Int) - 48) = ((c.toNat - 48 : Nat) : Int) := by rw [wrapU8 (by omega)]; omega
                    obtain ⟨x, hxx⟩ : ∃ x, c.toNat - 48 = x := ⟨_, rfl⟩
                    rw [hxx] at w1
                    have w4 : IntKind.i64.wrap (x : Int) = x := wrap64 (by omega)
                    have w6 : IntKind.i64.wrap ((i : Int) + 1) = (i : Int) + 1 := wrap64 (by omega)
                    obtain ⟨y, hy⟩ : ∃ y, IntKind.i64.wrap (-9223372036854775808 + (x : Int)) = y := ⟨_, rfl⟩
                    obtain ⟨z, hz⟩ : ∃ z, IntKind.i64.wrap (y.tdiv 10) = z := ⟨_, rfl⟩
                    obtain ⟨v, hv⟩ : ∃ v, IntKind.i64.wrap (10 * m) = v := ⟨_, rfl⟩
                    obtain ⟨u, hu⟩ : ∃ u, IntKind.i64.wrap (v - (x : Int)) = u := ⟨_, rfl⟩
                    by_cases z3 : m < z
                    · simp (maxSteps := 4000000) [List.getElem?_cons_zero, List.getElem?_cons_succ, -getElem?_pos, hc, hx, z1, z2, w1, w4, hy, hz, z3, Tryz.results58]
                    · simp (maxSteps := 4000000) [List.getElem?_cons_zero, List.getElem?_cons_succ, -getElem?_pos, hc, hx, z1, z2, w1, w4, hy, hz, z3, hv, hu, w6]
                      exact ⟨u, i + 1, by omega, by omega, rfl, by simp⟩
              · simp (maxSteps := 4000000) [List.getElem?_cons_zero, List.getElem?_cons_succ, hc, Tryz.results58]
  · refine EV_postE rfl Tryz.func58 rfl (by simp [Tryz.ntmps58]) (by kernel_rfl) (by kernel_rfl) ?_
    by_cases n1a : 1 < s.length
    · obtain ⟨c0, hc0⟩ : ∃ c, s[0]? = some c := ⟨_, List.getElem?_eq_getElem (by omega)⟩
      have n1b : ¬ c0 = 45 := by rintro rfl; exact n1 ⟨n1a, hc0⟩
      by_cases e1 : s = []
      · have e1' : s.isEmpty = true := by rw [e1]; rfl
        simp (maxSteps := 4000000) [List.getElem?_cons_zero, List.getElem?_cons_succ, -getElem?_pos, n1a, hc0, n1b, e1', Tryz.results58]
      · have e1' : s.isEmpty = false := by cases s with | nil => exact absurd rfl e1 | cons a b => rfl
        obtain ⟨c1, hc1⟩ : ∃ c, s[0]? = some c := by cases s with | nil => exact absurd rfl e1 | cons a b => exact ⟨a, rfl⟩
        obtain rfl : c1 = c0 := by rw [hc0] at hc1; injection hc1 with q; exact q.symm
        by_cases e2 : 19 < s.length
        · simp (maxSteps := 4000000) [List.getElem?_cons_zero, List.getElem?_cons_succ, -getElem?_pos, n1a, hc0, n1b, e1', e2, Tryz.results58]
        · by_cases e3 : 1 < s.length ∧ c1 = 48
          · have e3a := e3.1
            have e3b := e3.2
            subst e3b
            simp (maxSteps := 4000000) [List.getElem?_cons_zero, List.getElem?_cons_succ, -getElem?_pos, n1a, hc0, n1b, e1', e2, e3a, hc1, Tryz.results58]
          · by_cases e3a : 1 < s.length
            · have e3b : ¬ c1 = 48 := fun e => e3 ⟨e3a, e⟩
              simp (maxSteps := 4000000) [List.getElem?_cons_zero, List.getElem?_cons_succ, -getElem?_pos, n1a, hc0, n1b, e1', e2, e3a, hc1, e3b]
              refine Post_loop (I := fun p : Int × Nat => ⟨[(4, .bool false), (5, .str s), (6, .int .i64 p.1), (7, .int .i64 p.2)], [], σ⟩) (Pr := fun p => p.2 ≤ s.length) (μ := fun p => s.length - p.2) (a := (0, 0)) (by simp) (by simp) ?_
              rintro ⟨m, i⟩ hi
              simp only at hi ⊢
              by_cases hc : i < s.length
              · obtain ⟨c, hx⟩ : ∃ c, s[i]? = some c := ⟨_, List.getElem?_eq_getElem hc⟩
                by_cases z1 : c.toNat < 48
                · simp (maxSteps := 4000000) [List.getElem?_cons_zero, List.getElem?_cons_succ, -getElem?_pos, hc, hx, z1, Tryz.results58]
                · by_cases z2 : 57 < c.toNat
                  · simp (maxSteps := 4000000) [List.getElem?_cons_zero, List.getElem?_cons_succ, -getElem?_pos, hc, hx, z1, z2, Tryz.results58]
                  · have w1 : IntKind.u8.wrap ((c.toNat : Int) - 48) = ((c.toNat - 48 : Nat) : Int) := by rw [wrapU8 (by omega)]; omega
                    obtain ⟨x, hxx⟩ : ∃ x, c.toNat - 48 = x := ⟨_, rfl⟩
                    rw [hxx] at w1
                    have w4 : IntKind.i64.wrap (x : Int) = x := wrap64 (by omega)
                    have w6 : IntKind.i64.wrap ((i : Int) + 1) = (i : Int) + 1 := wrap64 (by omega)
                    obtain ⟨y, hy⟩ : ∃ y, IntKind.i64.wrap (-9223372036854775808 + (x : Int)) = y := ⟨_, rfl⟩
                    obtain ⟨z, hz⟩ : ∃ z, IntKind.i64.wrap (y.tdiv 10) = z := ⟨_, rfl⟩
                    obtain ⟨v, hv⟩ : ∃ v, IntKind.i64.wrap (10 * m) = v := ⟨_, rfl⟩
                    obtain ⟨u, hu⟩ : ∃ u, IntKind.i64.wrap (v - (x : Int)) = u := ⟨_, rfl⟩
                    by_cases z3 : m < z
                    · simp (maxSteps := 4000000) [List.getElem?_cons_zero, List.getElem?_cons_succ, -getElem?_pos, hc, hx, z1, z2, w1, w4, hy, hz, z3, Tryz.results58]
                    · simp (maxSteps := 4000000) [List.getElem?_cons_zero, List.getElem?_cons_succ, -getElem?_pos, hc, hx, z1, z2, w1, w4, hy, hz, z3, hv, hu, w6]
                      exact ⟨u, i + 1, by omega, by omega, rfl, by simp⟩
              · by_cases q1 : m = -9223372036854775808
                · simp (maxSteps := 4000000) [List.getElem?_cons_zero, List.getElem?_cons_succ, hc, q1, Tryz.results58]
                · simp (maxSteps := 4000000) [List.getElem?_cons_zero, List.getElem?_cons_succ, hc, q1, Tryz.results58]
            · exact absurd n1a e3a
    · have n0 : True := trivial
      by_cases e1 : s = []
      · have e1' : s.isEmpty = true := by rw [e1]; rfl
        simp (maxSteps := 4000000) [List.getElem?_cons_zero, List.getElem?_cons_succ, -getElem?_pos, n1a, e1', Tryz.results58]
      · have e1' : s.isEmpty = false := by cases s with | nil => exact absurd rfl e1 | cons a b => rfl
        obtain ⟨c1, hc1⟩ : ∃ c, s[0]? = some c := by cases s with | nil => exact absurd rfl e1 | cons a b => exact ⟨a, rfl⟩
        by_cases e2 : 19 < s.length
        · simp (maxSteps := 4000000) [List.getElem?_cons_zero, List.getElem?_cons_succ, -getElem?_pos, n1a, e1', e2, Tryz.results58]
        · by_cases e3 : 1 < s.length ∧ c1 = 48
          · exact absurd e3.1 n1a
          · by_cases e3a : 1 < s.length
            · exact absurd e3a n1a
            · simp (maxSteps := 4000000) [List.getElem?_cons_zero, List.getElem?_cons_succ, -getElem?_pos, n1a, e1', e2, e3a]
              refine Post_loop (I := fun p : Int × Nat => ⟨[(4, .bool false), (5, .str s), (6, .int .i64 p.1), (7, .int .i64 p.2)], [], σ⟩) (Pr := fun p => p.2 ≤ s.length) (μ := fun p => s.length - p.2) (a := (0, 0)) (by simp) (by simp) ?_
              rintro ⟨m, i⟩ hi
              simp only at hi ⊢
              by_cases hc : i < s.length
              · obtain ⟨c, hx⟩ : ∃ c, s[i]? = some c := ⟨_, List.getElem?_eq_getElem hc⟩
                by_cases z1 : c.toNat < 48
                · simp (maxSteps := 4000000) [List.getElem?_cons_zero, List.getElem?_cons_succ, -getElem?_pos, hc, hx, z1, Tryz.results58]
                · by_cases z2 : 57 < c.toNat
                  · simp (maxSteps := 4000000) [List.getElem?_cons_zero, List.getElem?_cons_succ, -getElem?_pos, hc, hx, z1, z2, Tryz.results58]
                  · have w1 : IntKind.u8.wrap ((c.toNat : Int) - 48) = ((c.toNat - 48 : Nat) : Int) := by rw [wrapU8 (by omega)]; omega
                    obtain ⟨x, hxx⟩ : ∃ x, c.toNat - 48 = x := ⟨_, rfl⟩
                    rw [hxx] at w1
                    have w4 : IntKind.i64.wrap (x : Int) = x := wrap64 (by omega)
                    have w6 : IntKind.i64.wrap ((i : Int) + 1) = (i : Int) + 1 := wrap64 (by omega)
                    obtain ⟨y, hy⟩ : ∃ y, IntKind.i64.wrap (-9223372036854775808 + (x : Int)) = y := ⟨_, rfl⟩
                    obtain ⟨z, hz⟩ : ∃ z, IntKind.i64.wrap (y.tdiv 10) = z := ⟨_, rfl⟩
                    obtain ⟨v, hv⟩ : ∃ v, IntKind.i64.wrap (10 * m) = v := ⟨_, rfl⟩
                    obtain ⟨u, hu⟩ : ∃ u, IntKind.i64.wrap (v - (x : Int)) = u := ⟨_, rfl⟩
                    by_cases z3 : m < z
                    · simp (maxSteps := 4000000) [List.getElem?_cons_zero, List.getElem?_cons_succ, -getElem?_pos, hc, hx, z1, z2, w1, w4, hy, hz, z3, Tryz.results58]
                    · simp (maxSteps := 4000000) [List.getElem?_cons_zero, List.getElem?_cons_succ, -getElem?_pos, hc, hx, z1, z2, w1, w4, hy, hz, z3, hv, hu, w6]
                      exact ⟨u, i + 1, by omega, by omega, rfl, by simp⟩
              · by_cases q1 : m = -9223372036854775808
                · simp (maxSteps := 4000000) [List.getElem?_cons_zero, List.getElem?_cons_succ, hc, q1, Tryz.results58]
                · simp (maxSteps := 4000000) [List.getElem?_cons_zero, List.getElem?_cons_succ, hc, q1, Tryz.results58]
end Go.Proofs.Tryz.Ai
end
section
/- Heads are read: both sides. -/
namespace Go.Proofs.Tryz.Ai
open Go Go.AI Go.Proofs Go.B64
set_option maxHeartbeats 8000000
set_option maxRecDepth 4000
set_option linter.unusedVariables false

def IsH (text : List UInt8) (n : Nat) (root : List UInt8) : Prop := n ≤ 1048576 ∧ root.length = 32 ∧ text = headT n root
open Classical in
noncomputable def parH (text : List UInt8) : (Int × List UInt8) × Int := if h : ∃ p : Nat × List UInt8, IsH text p.1 p.2 then (((h.choose.1 : Int), h.choose.2), 0) else ((0, []), 15)
theorem headT_unl (n : Nat) (root : List UInt8) : headT n root = unl [[109, 101, 119, 115, 32, 108, 111, 103], Lib.decDigits n, b64 root] := by
  simp [headT, headB, unl]
theorem head_split (n : Nat) (root : List UInt8) : splitB 10 (headT n root) = [[109, 101, 119, 115, 32, 108, 111, 103], Lib.decDigits n, b64 root, []] := by
  rw [headT_unl, split_unl]
  · rfl
  · intro x hx
    simp only [List.mem_cons, List.mem_nil_iff, or_false] at hx
    rcases hx with rfl | rfl | rfl
    · decide
    · exact dec_no 10 (by decide) n
    · exact b64_not 10 (by decide +kernel) (by decide) root
theorem headT_inj {n m : Nat} {r s : List UInt8} (h : headT n r = headT m s) : n = m ∧ r = s := by
  have := congrArg (splitB 10) h
  rw [head_split, head_split] at this
  simp only [List.cons.injEq, true_and, and_true] at this
  exact ⟨dec_inj this.1, b64_inj _ _ this.2⟩
theorem parH_yes {text : List UInt8} {n : Nat} {root : List UInt8} (h : IsH text n root) : parH text = (((n : Int), root), 0) := by
  have hx : ∃ p : Nat × List UInt8, IsH text p.1 p.2 := ⟨(n, root), h⟩
  unfold parH
  rw [dif_pos hx]
  obtain ⟨a1, a2, a3⟩ := hx.choose_spec
  have := headT_inj (a3.symm.trans h.2.2)
  rw [this.1, this.2]
theorem parH_no {text : List UInt8} (h : ¬ ∃ p : Nat × List UInt8, IsH text p.1 p.2) : parH text = ((0, []), 15) := by
  unfold parH
  rw [dif_neg h]
theorem fmtH_cases (v : Int) (r : List UInt8) : fmtH v r = ([], 15) ∨ ∃ n : Nat, v = n ∧ n ≤ 1048576 ∧ r.length = 32 ∧ fmtH v r = (headT n r, 0) := by
  unfold fmtH
  split
  · exact .inl rfl
  · exact .inr ⟨v.toNat, by omega, by omega, by omega, rfl⟩
theorem fromR_cases (s : List UInt8) : fromR s = ([], 15) ∨ ∃ b, fromR s = (b, 0) := by
  cases h : from64 s with
  | none => exact .inl (fromR_none h)
  | some b => exact .inr ⟨b, fromR_some h⟩
theorem Atoi_dec (n : Nat) (hn : n < 10 ^ 9) (σ) : ev 56 [.str (Lib.decDigits n)] σ = some (.tup [.int .i64 n, .nili], σ) := by
  have hl := decDigits_len 8 n (by omega)
  rw [ev_Atoi]
  simp only [atoiT]
  rw [need_of (by omega), atoiAll_dec n (by omega)]
theorem Atoi_any (s : List UInt8) (hs : s.length ≤ 2 ^ 30) : ∃ (v : Int) (e : AV), (e = .nili ∨ e = .ifx) ∧ ∀ σ, ev 56 [.str s] σ = some (.tup [.int .i64 v, e], σ) := by
  rcases h : Lib.atoiAll s with v | _ | _
  · exact ⟨v, .nili, .inl rfl, fun σ => by rw [ev_Atoi]; simp only [atoiT]; rw [need_of (by omega), h]⟩
  · exact ⟨0, .ifx, .inr rfl, fun σ => by rw [ev_Atoi]; simp only [atoiT]; rw [need_of (by omega), h]⟩
  · exact ⟨_, .ifx, .inr rfl, fun σ => by rw [ev_Atoi]; simp only [atoiT]; rw [need_of (by omega), h]⟩
theorem list4 {α : Type} {l : List α} (h : l.length = 4) : ∃ a b c d, l = [a, b, c, d] := by
  match l, h with
  | [a, b, c, d], _ => exact ⟨a, b, c, d, rfl⟩
theorem ParseHead_eq (text : List UInt8) (ht : text.length ≤ 2 ^ 22) (σ) : ev 27 [.str text] σ = some (.tup [.agg [.int .i64 (parH text).1.1, .sl .sh ((parH text).1.2.map .u8)], .int .i64 (parH text).2], σ) := by
  have hSp := Split_eq 10 text (by omega)
  by_cases hh : ∃ p : Nat × List UInt8, IsH text p.1 p.2
  · obtain ⟨⟨n, r⟩, h1, h2, h3⟩ := hh
    simp only at h1 h2 h3
    have hR := parH_yes (⟨h1, h2, h3⟩ : IsH text n r)
    have hA := Atoi_dec n (by omega)
    have hB := FromBase64_eq (b64 r) (by rw [b64_len]; omega)
    rw [fromR_some (from64_b64 r)] at hB
    have hF := FormatHead_eq n r
    have hq : fmtH n r = (headT n r, 0) := by unfold fmtH; rw [if_neg (by omega)]; rfl
    rw [hq, ← h3] at hF
    rw [h3, head_split, ← h3] at hSp
    obtain ⟨D, hD⟩ : ∃ D, Lib.decDigits n = D := ⟨_, rfl⟩
    obtain ⟨B, hBB⟩ : ∃ B, b64 r = B := ⟨_, rfl⟩
    rw [hD] at hA hSp
    rw [hBB] at hB hSp
    rw [hR]
    clear h3 hR hq hD hBB
    refine EV_post rfl Tryz.func27 rfl (by simp [Tryz.ntmps27]) (by kernel_rfl) (by kernel_rfl) ?_
    simp (maxSteps := 4000000) [List.getElem?_cons_zero, List.getElem?_cons_succ, hSp, hA, hB, hF, Tryz.results27]
  · have hR := parH_no hh
    rw [hR]
    have hm := fun x (hx : x ∈ splitB 10 text) => splitB_le hx
    obtain ⟨L, hL⟩ : ∃ L, splitB 10 text = L := ⟨_, rfl⟩
    rw [hL] at hSp hm
    by_cases h4 : L.length = 4
    · obtain ⟨a, b, c, d, rfl⟩ := list4 h4
      obtain ⟨v, e, he, hA⟩ := Atoi_any b (by have := hm b (by simp); omega)
      have hB := FromBase64_eq c (by have := hm c (by simp); omega)
      obtain ⟨⟨r, q⟩, hq⟩ : ∃ p, fromR c = p := ⟨_, rfl⟩
      have hF := FormatHead_eq v r
      rw [hq] at hB
      have hqc : q = 15 ∨ q = 0 := by
        rcases fromR_cases c with k | ⟨x, k⟩ <;> (rw [hq] at k; injection k with k1 k2; subst k2; simp)
      rcases fmtH_cases v r with hf | ⟨n, hv, hn, hr, hf⟩
      · rw [hf] at hF
        clear hL hm
        refine EV_post rfl Tryz.func27 rfl (by simp [Tryz.ntmps27]) (by kernel_rfl) (by kernel_rfl) ?_
        rcases he with rfl | rfl <;> rcases hqc with rfl | rfl <;> simp (maxSteps := 4000000) [List.getElem?_cons_zero, List.getElem?_cons_succ, hSp, hA, hB, hF, Tryz.results27]
      · have hne : (headT n r == text) = false := by
          rw [beq_eq_false_iff_ne]
          intro e
          exact hh ⟨(n, r), hn, hr, e.symm⟩
        rw [hf] at hF
        obtain ⟨T, hT⟩ : ∃ T, headT n r = T := ⟨_, rfl⟩
        rw [hT] at hF hne
        clear hL hm
        refine EV_post rfl Tryz.func27 rfl (by simp [Tryz.ntmps27]) (by kernel_rfl) (by kernel_rfl) ?_
        rcases he with rfl | rfl <;> rcases hqc with rfl | rfl <;> simp (maxSteps := 4000000) [List.getElem?_cons_zero, List.getElem?_cons_succ, hSp, hA, hB, hF, hne, Tryz.results27]
    · refine EV_post rfl Tryz.func27 rfl (by simp [Tryz.ntmps27]) (by kernel_rfl) (by kernel_rfl) ?_
      simp (maxSteps := 4000000) [List.getElem?_cons_zero, List.getElem?_cons_succ, hSp, h4, Tryz.results27]
theorem rParseHead_eq (text : List UInt8) (ht : text.length ≤ 2 ^ 22) (σ) : ev 28 [.str text] σ = some (.tup [.int .i64 (parH text).1.1, .sl .sh ((parH text).1.2.map .u8), .int .i64 (parH text).2], σ) := by
  have hSp : ∀ σ, ev 47 [.str text, .int .u8 10] σ = some (.sl (.ex 9 1) ((splitB 10 text).map .str), σ) := fun σ => Cut_eq text (by omega) 10 σ
  by_cases hh : ∃ p : Nat × List UInt8, IsH text p.1 p.2
  · obtain ⟨⟨n, r⟩, h1, h2, h3⟩ := hh
    simp only at h1 h2 h3
    have hR := parH_yes (⟨h1, h2, h3⟩ : IsH text n r)
    have hA := rAtoi_dec n (by omega)
    have hB := rFromBase64_eq (b64 r) (by rw [b64_len]; omega)
    rw [fromR_some (from64_b64 r)] at hB
    have hF := rFormatHead_eq n r
    have hq : fmtH n r = (headT n r, 0) := by unfold fmtH; rw [if_neg (by omega)]; rfl
    rw [hq, ← h3] at hF
    rw [h3, head_split, ← h3] at hSp
    obtain ⟨D, hD⟩ : ∃ D, Lib.decDigits n = D := ⟨_, rfl⟩
    obtain ⟨B, hBB⟩ : ∃ B, b64 r = B := ⟨_, rfl⟩
    rw [hD] at hA hSp
    rw [hBB] at hB hSp
    rw [hR]
    clear h3 hR hq hD hBB
    refine EV_post rfl Tryz.func28 rfl (by simp [Tryz.ntmps28]) (by kernel_rfl) (by kernel_rfl) ?_
    simp (maxSteps := 4000000) [List.getElem?_cons_zero, List.getElem?_cons_succ, hSp, hA, hB, hF, Tryz.results28]
  · have hR := parH_no hh
    rw [hR]
    have hm := fun x (hx : x ∈ splitB 10 text) => splitB_le hx
    obtain ⟨L, hL⟩ : ∃ L, splitB 10 text = L := ⟨_, rfl⟩
    rw [hL] at hSp hm
    by_cases h4 : L.length = 4
    · obtain ⟨a, b, c, d, rfl⟩ := list4 h4
      obtain ⟨v, ok, hA⟩ := rAtoi_any b (by have := hm b (by simp); omega) σ
      have hB := rFromBase64_eq c (by have := hm c (by simp); omega)
      obtain ⟨⟨r, q⟩, hq⟩ : ∃ p, fromR c = p := ⟨_, rfl⟩
      have hF := rFormatHead_eq v r
      rw [hq] at hB
      have hqc : q = 15 ∨ q = 0 := by
        rcases fromR_cases c with k | ⟨x, k⟩ <;> (rw [hq] at k; injection k with k1 k2; subst k2; simp)
      rcases fmtH_cases v r with hf | ⟨n, hv, hn, hr, hf⟩
      · rw [hf] at hF
        clear hL hm
        refine EV_post rfl Tryz.func28 rfl (by simp [Tryz.ntmps28]) (by kernel_rfl) (by kernel_rfl) ?_
        cases ok <;> rcases hqc with rfl | rfl <;> simp (maxSteps := 4000000) [List.getElem?_cons_zero, List.getElem?_cons_succ, hSp, hA, hB, hF, Tryz.results28]
      · have hne : (headT n r == text) = false := by
          rw [beq_eq_false_iff_ne]
          intro e
          exact hh ⟨(n, r), hn, hr, e.symm⟩
        rw [hf] at hF
        obtain ⟨T, hT⟩ : ∃ T, headT n r = T := ⟨_, rfl⟩
        rw [hT] at hF hne
        clear hL hm
        refine EV_post rfl Tryz.func28 rfl (by simp [Tryz.ntmps28]) (by kernel_rfl) (by kernel_rfl) ?_
        cases ok <;> rcases hqc with rfl | rfl <;> simp (maxSteps := 4000000) [List.getElem?_cons_zero, List.getElem?_cons_succ, hSp, hA, hB, hF, hne, Tryz.results28]
    · refine EV_post rfl Tryz.func28 rfl (by simp [Tryz.ntmps28]) (by kernel_rfl) (by kernel_rfl) ?_
      simp (maxSteps := 4000000) [List.getElem?_cons_zero, List.getElem?_cons_succ, hSp, h4, Tryz.results28]
end Go.Proofs.Tryz.Ai
end
section
/- NoteHeads, NoteHeadsBack: the evaluation. -/
namespace Go.Proofs.Tryz.Ai
open Go Go.AI Go.Proofs Go.B64
set_option maxHeartbeats 4000000
set_option maxRecDepth 4000
set_option linter.unusedVariables false

theorem parH_len (text : List UInt8) : (parH text).1.2.length ≤ 32 := by
  by_cases h : ∃ p : Nat × List UInt8, IsH text p.1 p.2
  · obtain ⟨⟨n, r⟩, h⟩ := h
    rw [parH_yes h]; exact Nat.le_of_eq h.2.1
  · rw [parH_no h]; simp
theorem headsLaw_eq (size : Int) (root text : List UInt8) (σ : List (List AV)) : ev 7 [.int .i64 size, .sl .sh (root.map .u8), .str text] σ = some (.bool true, σ) := by
  have hF := first_eq
  have h1 := FormatHead_eq size root
  have h2 := rFormatHead_eq size root
  have hl := parH_len text
  have hN : ∀ n σ, ev 13 [.int .i64 n] σ = some (.int .i64 n, σ) := fun n σ => Num_eq n σ
  obtain ⟨⟨⟨n, R⟩, e⟩, hp⟩ : ∃ p, parH text = p := ⟨_, rfl⟩
  obtain ⟨⟨T, f⟩, hq⟩ : ∃ p, fmtH size root = p := ⟨_, rfl⟩
  rw [hq] at h1 h2
  rw [hp] at hl
  simp only at h1 h2 hl
  have hS := SameBytes_eq .sh .sh R R (by omega)
  simp only [beq_self_eq_true] at hS
  refine EV_post rfl Tryz.func7 rfl (by simp [Tryz.ntmps7]) (by kernel_rfl) (by kernel_rfl) ?_
  by_cases c1 : 4000 < root.length
  · simp (maxSteps := 4000000) [List.getElem?_cons_zero, List.getElem?_cons_succ, hF, c1, Tryz.results7]
  · by_cases c2 : 4000 < text.length
    · simp (maxSteps := 4000000) [List.getElem?_cons_zero, List.getElem?_cons_succ, hF, c1, c2, Tryz.results7]
    · have h3 := ParseHead_eq text (by omega)
      have h4 := rParseHead_eq text (by omega)
      rw [hp] at h3 h4
      simp only at h3 h4
      simp (maxSteps := 4000000) [List.getElem?_cons_zero, List.getElem?_cons_succ, hF, c1, c2, h1, h2, h3, h4, hS, hN, Tryz.results7]
theorem headsBackLaw_eq (size : Int) (root text : List UInt8) (σ : List (List AV)) : ev 8 [.int .i64 size, .sl .sh (root.map .u8), .str text] σ = some (.bool true, σ) := by
  have hF := first_eq
  have h1 := FormatHead_eq size root
  have hN : ∀ n σ, ev 13 [.int .i64 n] σ = some (.int .i64 n, σ) := fun n σ => Num_eq n σ
  refine EV_post rfl Tryz.func8 rfl (by simp [Tryz.ntmps8]) (by kernel_rfl) (by kernel_rfl) ?_
  by_cases c1 : 4000 < root.length
  · simp (maxSteps := 4000000) [List.getElem?_cons_zero, List.getElem?_cons_succ, hF, c1, Tryz.results8]
  · by_cases c2 : 4000 < text.length
    · simp (maxSteps := 4000000) [List.getElem?_cons_zero, List.getElem?_cons_succ, hF, c1, c2, Tryz.results8]
    · have h3 := ParseHead_eq text (by omega)
      have fmt : (fmtH size root = ([], 15)) ∨ ∃ n : Nat, size = n ∧ n ≤ 1048576 ∧ root.length = 32 ∧ fmtH size root = (headT n root, 0) := by
        unfold fmtH
        split
        · exact .inl rfl
        · rename_i h
          refine .inr ⟨size.toNat, by omega, by omega, by omega, rfl⟩
      have par : (parH text = ((0, []), 15)) ∨ ∃ (n : Nat) (R : List UInt8), parH text = (((n : Int), R), 0) ∧ fmtH n R = (text, 0) := by
        by_cases h : ∃ p : Nat × List UInt8, IsH text p.1 p.2
        · obtain ⟨⟨n, r⟩, h⟩ := h
          refine .inr ⟨n, r, parH_yes h, ?_⟩
          obtain ⟨a1, a2, a3⟩ := h
          simp only at a1 a2 a3
          unfold fmtH
          rw [if_neg (by omega), a3]; simp
        · exact .inl (parH_no h)
      have tail : ∀ (st : St), True := fun _ => trivial
      rcases fmt with hq | ⟨n, rfl, hn, hr, hq⟩
      · rw [hq] at h1
        simp only at h1
        rcases par with hp | ⟨m, R, hp, hf⟩
        · rw [hp] at h3
          simp only [List.map_nil] at h3
          simp (maxSteps := 4000000) [List.getElem?_cons_zero, List.getElem?_cons_succ, hF, c1, c2, h1, h3, hN, Tryz.results8]
        · have h5 := FormatHead_eq m R
          rw [hp] at h3
          rw [hf] at h5
          simp only at h3 h5
          simp (maxSteps := 4000000) [List.getElem?_cons_zero, List.getElem?_cons_succ, hF, c1, c2, h1, h3, h5, hN, Tryz.results8]
      · have h6 := ParseHead_eq (headT n root) (by have := b64_len root; have := dec_len7 n hn; simp only [headT, headB, List.length_append, List.length_cons, List.length_nil]; omega)
        rw [parH_yes (⟨hn, hr, rfl⟩ : IsH (headT n root) n root)] at h6
        rw [hq] at h1
        have hS := SameBytes_eq .sh .sh root root (by omega)
        simp only [beq_self_eq_true] at hS
        obtain ⟨T, hT⟩ : ∃ T, headT n root = T := ⟨_, rfl⟩
        rw [hT] at h1 h6
        simp only at h1 h6
        rcases par with hp | ⟨m, R, hp, hf⟩
        · rw [hp] at h3
          simp only [List.map_nil] at h3
          simp (maxSteps := 4000000) [List.getElem?_cons_zero, List.getElem?_cons_succ, hF, c1, c2, h1, h3, h6, hS, hN, Tryz.results8]
        · have h5 := FormatHead_eq m R
          rw [hp] at h3
          rw [hf] at h5
          simp only at h3 h5
          simp (maxSteps := 4000000) [List.getElem?_cons_zero, List.getElem?_cons_succ, hF, c1, c2, h1, h3, h5, h6, hS, hN, Tryz.results8]
end Go.Proofs.Tryz.Ai
end
section
/- The frame of NoteHeadsBack: from the evaluation to the given statement. -/

namespace Go.Proofs.YtkafjfkkangooaaGreatDoor.noteHeadsBack
open Go Go.AI Go.ChangeShapes Go.WideShapes Go.ChangeAt Go.RowKit
set_option linter.unusedVariables false

theorem own : ownKnob Tryz.prog.godebug = none := by kernel_rfl
theorem mixed : Tryz.prog.follows .mixedOrders = true := by kernel_rfl
theorem laidOut : laidOutB Tryz.prog = true := by kernel_rfl

theorem walk (a0 : Int) (a1 : List UInt8) (a2 : List UInt8) (v0 v1 v2 : Value) (W : World) (hl : Go.Proofs.Tryz.Ai.LaidAll W) (r0 : Rep W.heap.size gh0 W v0 (.int .i64 a0)) (r1 : Rep W.heap.size gh0 W v1 (.sl .sh (a1.map .u8))) (r2 : Rep W.heap.size gh0 W v2 (.str a2))
    (he : Go.Proofs.Tryz.Ai.ev 8 [.int .i64 a0, .sl .sh (a1.map .u8), .str a2] [] = some (.bool true, [])) :
    Calls Tryz.prog 8 #[v0, v1, v2] W fun e w' => e = .returned (.bool true) ∧ Below W.heap.size W w' :=
  Go.AI.top (s' := []) mixed rfl (Go.Proofs.Tryz.Ai.T_ok hl) (by rfl)
    (fun j c h => by
      match j, h with
      | 0, h => simp at h; subst h; exact ⟨r0, rfl, rfl⟩
      | 1, h => simp at h; subst h; exact ⟨r1, rfl, rfl⟩
      | 2, h => simp at h; subst h; exact ⟨r2, rfl, rfl⟩
      | j + 3, h => simp at h)
    he

/-- the table of powers, as the row lays it -/
theorem laid_of {W : World} (hL : laidMet Tryz.prog Rows.noteHeadsBackRow.laid W) : Go.Proofs.Tryz.Ai.Laid W :=
  tabIs_of_mem (g := 3) (t := 182) (e := 133) (n := 20) (by
    have : ("internal/strconv.uint64pow10", Rows.laid_internal_strconv_uint64pow10) ∈ Rows.noteHeadsBackRow.laid := by simp [Rows.noteHeadsBackRow]
    have e : (Rows.laid_internal_strconv_uint64pow10 : DataW Unit) = Lib.tabData .u64 Lib.pow10Tab := by kernel_rfl
    rw [e] at this; exact this) (by kernel_rfl) (by kernel_rfl) Tryz.underlying182 Tryz.underlying133 (by kernel_rfl) (by kernel_rfl) hL

/-- what a row lays, and what each world has -/
theorem all_of {W : World} (hL : laidMet Tryz.prog Rows.noteHeadsBackRow.laid W) (hsh : W.ShapedOpen Tryz.prog) : Go.Proofs.Tryz.Ai.LaidAll W where
  tab := laid_of hL
  max := Go.Proofs.Tryz.Ai.maxLen_of hsh
  esyn := Go.Proofs.Tryz.Ai.errAt_of (g := 1) (Go.Proofs.Tryz.Ai.laidMet_drop 5 hL) (by kernel_rfl) (by kernel_rfl)
  eran := Go.Proofs.Tryz.Ai.errAt_of (g := 2) (Go.Proofs.Tryz.Ai.laidMet_drop 4 hL) (by kernel_rfl) (by kernel_rfl)

theorem readable : ∀ t ∈ Tryz.f8.params.toList, Tryz.prog.readableRec t = true ∧ t < Tryz.prog.types.size := by
  rw [Tryz.params8]
  intro t ht
  simp only [List.mem_cons, List.mem_nil_iff, or_false] at ht
  rcases ht with rfl | rfl | rfl <;> exact ⟨by kernel_rfl, of_decide_eq_true (by kernel_rfl)⟩

set_option maxRecDepth 100000 in
theorem contract (H : Type) (enc : TypeId × Value → H) (W : World) (base : Nat) (args : Array Value) (ds gs : List (DataW H)) (before : List MemPlace)
    (hval : ∀ (j : Nat) t v, Tryz.f8.params[j]? = some t → args[j]? = some v → Value.okWide Tryz.prog W .any base t v)
    (hW : DataW.Whole enc Tryz.prog Tryz.f8.params.toList Rows.noteHeadsBackSpec.vars false W args.toList ds gs before) (hl : Go.Proofs.Tryz.Ai.LaidAll W) :
    Calls Tryz.prog 8 args W fun e W' => ∃ v, e = .returned v ∧ Rows.noteHeadsBackSpec.post enc Tryz.prog Tryz.f8 false true false false W args v W' := by
  have hW' := hW
  obtain ⟨p, q, hA0, hV, rfl, hfz, hnd⟩ := hW
  have hA : DataW.TrodAll enc Tryz.prog W 0 (fun _ => true) true Tryz.f8.params.toList args.toList ds p := hA0
  have hAk := hA
  rw [Tryz.params8] at hA hval
  obtain ⟨v0, vs0, d0, ds0, p0, q0, hargs0, rfl, rfl, h0, r0⟩ := trodAll_cons hA
  obtain ⟨v1, vs1, d1, ds1, p1, q1, hargs1, rfl, rfl, h1, r1⟩ := trodAll_cons r0
  obtain ⟨v2, vs2, d2, ds2, p2, q2, hargs2, rfl, rfl, h2, r2⟩ := trodAll_cons r1
  obtain ⟨e1, e2, e3⟩ := trodAll_nil r2
  obtain rfl : args = #[v0, v1, v2] := by cases args; simp_all
  subst e2 e3
  obtain ⟨rfl, rfl⟩ := trodVars_none hV
  obtain ⟨a0, Q0, R0, _⟩ := (Reads.int Tryz.underlying3 (by kernel_rfl)).arg1 (enc := enc) (W := W) (fun _ => rfl) (by kernel_rfl) (hval 0 3 v0 rfl rfl) h0
  obtain ⟨a1, Q1, R1, _⟩ := (Reads.slice (Reads.u8 Tryz.underlying5 (by kernel_rfl)) Tryz.underlying43 (by kernel_rfl)).arg1 (enc := enc) (W := W) (fun _ => rfl) (by kernel_rfl) (hval 1 43 v1 rfl rfl) h1
  obtain ⟨a2, Q2, R2, _⟩ := (Reads.str Tryz.underlying9 (by kernel_rfl)).arg1 (enc := enc) (W := W) (fun _ => rfl) (by kernel_rfl) (hval 2 9 v2 rfl rfl) h2
  have hlt : ∀ x ∈ (p0 ++ p1 ++ p2 : List MemPlace), True := fun _ _ => trivial
  refine (walk a0 a1 a2 v0 v1 v2 W hl R0 R1 R2 (by have := Go.Proofs.Tryz.Ai.headsBackLaw_eq a0 a1 a2  []; exact this)).mono fun e W' ⟨he, bel⟩ => ?_
  subst he
  exact ⟨_, rfl, _, _, _, [], _, [], hW', trodAll_mk1 (shut_bool Tryz.underlying4 _), trodAll_keep laidOut bel readable hAk (fun x hx => by simpa using hW'.lt x (by simpa using hx)), rfl, bel.frame _, fun h => by cases h⟩

noncomputable def laidWorld (os : Os) : World := World.laidAll Tryz.prog os Rows.noteHeadsBackRow.laid
theorem laid_met (os : Os) : laidMet Tryz.prog Rows.noteHeadsBackRow.laid ((laidWorld os).forCall (fun _ _ => 0) ⟨#[], #[.int .i64 0, .slice none 0 0, .string ⟨#[]⟩], []⟩).memory :=
  laidMet_laidAll _ (by kernel_rfl) (by kernel_rfl)
theorem reads (os : Os) {H : Type} (enc : TypeId × Value → H) : ∃ places, DataW.whole enc Tryz.prog ((laidWorld os).forCall (fun _ _ => 0) ⟨#[], #[.int .i64 0, .slice none 0 0, .string ⟨#[]⟩], []⟩).memory Tryz.f8.params.toList Rows.noteHeadsBackSpec.vars false (#[.int .i64 0, .slice none 0 0, .string ⟨#[]⟩] : Array Value).toList 8 = some ([.lit (.int .i64 0), .nil, .lit (.string [])], [], places) :=
  ⟨[], by kernel_rfl⟩
theorem witness (os : Os) {H : Type} (enc : TypeId × Value → H) : ∃ (w : World) (tape : Tape) (i : Input), w.os = os ∧ (w.forCall tape i).Shaped Tryz.checked.prog ∧ i.vars = [] ∧ Input.okWide Tryz.checked.prog (w.forCall tape i) .any w.heap.size 8 i ∧
    (OpenSpec.ofChange Rows.noteHeadsBackSpec).preRow enc Tryz.checked.prog Tryz.f8 Rows.noteHeadsBackRow.domain false Rows.noteHeadsBackRow.laid (w.forCall tape i).memory i.args ∧ ({} : Assume).holds Tryz.checked.prog (lone (Frame.enter Tryz.checked.prog 8 i.args .normal) [] (w.forCall tape i)) := by
  obtain ⟨places, hx⟩ := reads os enc
  have hok : Input.okWideB Tryz.checked.prog ((laidWorld os).forCall (fun _ _ => 0) ⟨#[], #[.int .i64 0, .slice none 0 0, .string ⟨#[]⟩], []⟩) 8 ⟨#[], #[.int .i64 0, .slice none 0 0, .string ⟨#[]⟩], []⟩ = true := by kernel_rfl
  exact ⟨laidWorld os, fun _ _ => 0, ⟨#[], #[.int .i64 0, .slice none 0 0, .string ⟨#[]⟩], []⟩, World.laidAll_os _ _ _, World.shaped_of_ZipB (by kernel_rfl) (by kernel_rfl), (Input.okWide_of_okWideB (base := 0) hok).1, (Input.okWide_of_okWideB hok).2,
    OpenSpec.preRow_of_cond 8 hx (by kernel_rfl) (fun k hk => by cases hk) (by kernel_rfl) (laid_met os), by
    simp only [Assume.holds]
    exact ⟨by simp, by simp, fun _ => Modest.zero, by simp, by simp⟩⟩

set_option maxRecDepth 100000 in
theorem lifted (os : Os) (started : os.Started) (H : Type) (enc : TypeId × Value → H) (F : Stop.Interp) :
    ReturnsInHanded {} Tryz.checked os 8 .any ((OpenSpec.ofChange Rows.noteHeadsBackSpec).preRow enc Tryz.prog Tryz.f8 Rows.noteHeadsBackRow.domain false Rows.noteHeadsBackRow.laid) (((OpenSpec.ofChange Rows.noteHeadsBackSpec).at F).post enc Tryz.prog Tryz.f8 false true false false) := by
  refine returnsInHanded_of_row (C := Tryz.checked) (s := (OpenSpec.ofChange Rows.noteHeadsBackSpec)) own started (by kernel_rfl) Tryz.func8 (witness os enc) ?_
  intro W base args ds gs before hval hW _ hcond _ hL hsh _
  exact contract H enc W base args ds gs before hval hW (all_of (by rw [← MakeChecks.laidMetH_plain _ _ _ (by kernel_rfl)]; exact hL) hsh)

theorem said : Rows.NoteHeadsBackSaid :=
  OpenClaim.holds_of_cond 8 Tryz.f8 rfl rfl rfl rfl rfl rfl rfl ⟨rfl, rfl, rfl, rfl, rfl⟩ rfl rfl rfl rfl rfl (by kernel_rfl) Tryz.func8 (by kernel_rfl)
    (of_decide_eq_true (by kernel_rfl)) (by unfold Func.isWrapper; first | (rw [if_pos (by decide +kernel)]; kernel_rfl) | (rw [if_neg (by decide +kernel)]; exact ⟨rfl, rfl⟩))
    (fun os started H enc _ F => by rw [OpenClaim.pre_eq_preRow]; exact lifted os started H enc F)

theorem plain (f : FuncId) (fn : Func) (hf : Tryz.pinned.checked.prog.funcNamed "mews/mewslaw8.NoteHeadsBack" = some f) (hfn : Tryz.pinned.checked.prog.funcs[f]? = some fn) :
    true = Tryz.pinned.checked.prog.looks [] ∧ ∀ (j : Nat) t, fn.params[j]? = some t → Tryz.pinned.checked.prog.wantsStandIn t = false := by
  obtain rfl : f = 8 := Option.some.inj ((show Tryz.prog.funcNamed "mews/mewslaw8.NoteHeadsBack" = some 8 by kernel_rfl).symm.trans hf) |>.symm
  obtain rfl : fn = Tryz.f8 := (Option.some.inj (Tryz.func8.symm.trans hfn)).symm
  refine ⟨by kernel_rfl, fun j t ht => ?_⟩
  have hm : t ∈ Tryz.f8.params.toList := Array.mem_toList_iff.2 (Array.mem_of_getElem? ht)
  rw [Tryz.params8] at hm
  simp only [List.mem_cons, List.mem_nil_iff, or_false] at hm
  rcases hm with rfl | rfl | rfl
  · exact (show Tryz.prog.wantsStandIn 3 = false by kernel_rfl)
  · exact (show Tryz.prog.wantsStandIn 43 = false by kernel_rfl)
  · exact (show Tryz.prog.wantsStandIn 9 = false by kernel_rfl)

/-- the card -/
theorem card : Rows.NoteHeadsBackCardSaid :=
  Claim7.holds_tied_plain_at .later [] _ _ _ _ said (fun _ h => by cases h) (by kernel_rfl) (fun _ h => by cases h) noteHeadsBack_row_tie rfl ⟨rfl, rfl⟩ (by kernel_rfl) rfl plain (by kernel_rfl)
end Go.Proofs.YtkafjfkkangooaaGreatDoor.noteHeadsBack
end
