/- Part 6 of a proof: a Go function is evaluated on abstract values (texts N1 .. N20); no conditions beyond those of each theorem. -/
import Derived.Test.YtlpnjleajkdnpaaGreatDoorAi5
set_option linter.all false
set_option linter.unusedVariables false
set_option linter.unusedSimpArgs false
set_option linter.unnecessarySimpa false
section
/- Names and texts: which bytes may stand in them. -/
namespace Go.Proofs.Tryz.Ai
open Go Go.AI Go.Proofs
set_option maxHeartbeats 2000000
set_option linter.unusedVariables false

/-- where a rune from 128 on is always odd, just the bytes count -/
theorem idx_any (p : Nat → Bool) (hp : ∀ x, 128 ≤ x → p x = true) (s : ByteArray) : ∀ (f pos : Nat), s.size ≤ pos + f → decide (0 ≤ Lib.idxFuncFrom p true s f pos) = (s.data.toList.drop pos).any fun b => p b.toNat := by
  have hsz : s.data.toList.length = s.size := by show s.data.toList.length = s.data.size; simp
  intro f
  induction f with
  | zero =>
    intro pos h
    rw [List.drop_of_length_le (by omega)]
    simp [Lib.idxFuncFrom]
  | succ f ih =>
    intro pos h
    unfold Lib.idxFuncFrom
    by_cases hlt : pos < s.size
    · rw [if_pos hlt]
      have hd : s.data.toList.drop pos = s[pos]'hlt :: s.data.toList.drop (pos + 1) := by
        rw [List.drop_eq_getElem_cons (by omega)]; rfl
      rw [hd, List.any_cons]
      by_cases ha : (s[pos]'hlt).toNat < 128
      · rw [decode_ascii s pos hlt ha]
        simp only
        by_cases hpp : p (s[pos]'hlt).toNat = true
        · rw [if_pos hpp, hpp]; simp
        · rw [if_neg hpp, ih (pos + 1) (by omega)]
          simp only [Bool.not_eq_true] at hpp
          rw [hpp, Bool.false_or]
      · have hh := (decode_high s pos hlt (by omega)).1
        rw [if_pos (hp _ hh), hp _ (by omega)]; simp
    · rw [if_neg hlt, List.drop_of_length_le (by omega)]; simp
theorem idxFunc_any (p : Nat → Bool) (hp : ∀ x, 128 ≤ x → p x = true) (s : ByteArray) : decide (0 ≤ Lib.idxFunc p true s) = s.data.toList.any fun b => p b.toNat :=
  (idx_any p hp s s.size 0 (by omega)).trans (by simp)
theorem ContainsFunc_any (g : FuncId) (hg : AI.base g = g) (p : Nat → Bool) (hp : ∀ x : Nat, ∃ s, EV Tryz.prog H (fun _ => none) g [.int .i32 x] [] = some (.bool (p x), s)) (h128 : ∀ x, 128 ≤ x → p x = true) (l : List UInt8) (σ) :
    ev 50 [.str l, .fn g []] σ = some (.bool (l.any fun b => p b.toNat), σ) := by
  have hq : ∀ x, predOf H g x = some (p x) := fun x => by
    obtain ⟨s, h⟩ := hp x
    unfold predOf; rw [h]
  rw [ev_ContainsFunc]
  simp only [containsFuncT]
  rw [need_of ⟨hg, fun x _ => by rw [hq]; rfl⟩]
  have : (fun x => (predOf H g x).getD false) = p := by funext x; rw [hq]; rfl
  rw [this, idxFunc_any p h128]
def nameOdd (x : Nat) : Bool := decide (x < 33) || decide (126 < x) || decide (x = 43)
def textOdd (x : Nat) : Bool := (decide (x < 32) && !decide (x = 10)) || decide (126 < x)
theorem nameOdd_eq (x : Nat) : EV Tryz.prog H (fun _ => none) 57 [.int .i32 x] [] = some (.bool (nameOdd x), []) := by
  refine EV_post rfl Tryz.func57 rfl (by simp [Tryz.ntmps57]) (by kernel_rfl) (by kernel_rfl) ?_
  have c1 : decide ((x : Int) < 33) = decide (x < 33) := by rw [decide_eq_decide]; omega
  have c2 : decide ((126 : Int) < x) = decide (126 < x) := by rw [decide_eq_decide]; omega
  have c3 : decide ((x : Int) = 43) = decide (x = 43) := by rw [decide_eq_decide]; omega
  by_cases h1 : x < 33
  · simp (maxSteps := 4000000) [List.getElem?_cons_zero, List.getElem?_cons_succ, c1, h1, nameOdd, Tryz.results57]
  · by_cases h2 : 126 < x
    · simp (maxSteps := 4000000) [List.getElem?_cons_zero, List.getElem?_cons_succ, c1, c2, h1, h2, nameOdd, Tryz.results57]
    · simp (maxSteps := 4000000) [List.getElem?_cons_zero, List.getElem?_cons_succ, c1, c2, c3, h1, h2, nameOdd, Tryz.results57]
theorem textOdd_eq (x : Nat) : EV Tryz.prog H (fun _ => none) 48 [.int .i32 x] [] = some (.bool (textOdd x), []) := by
  refine EV_post rfl Tryz.func48 rfl (by simp [Tryz.ntmps48]) (by kernel_rfl) (by kernel_rfl) ?_
  have c1 : decide ((x : Int) < 32) = decide (x < 32) := by rw [decide_eq_decide]; omega
  have c2 : decide ((126 : Int) < x) = decide (126 < x) := by rw [decide_eq_decide]; omega
  have c3 : decide ((x : Int) = 10) = decide (x = 10) := by rw [decide_eq_decide]; omega
  by_cases h1 : x < 32
  · by_cases h2 : x = 10
    · simp (maxSteps := 4000000) [List.getElem?_cons_zero, List.getElem?_cons_succ, c1, c2, c3, h1, h2, textOdd, Tryz.results48]
    · simp (maxSteps := 4000000) [List.getElem?_cons_zero, List.getElem?_cons_succ, c1, c2, c3, h1, h2, textOdd, Tryz.results48]
  · by_cases h2 : 126 < x
    · simp (maxSteps := 4000000) [List.getElem?_cons_zero, List.getElem?_cons_succ, c1, c2, h1, h2, textOdd, Tryz.results48]
    · simp (maxSteps := 4000000) [List.getElem?_cons_zero, List.getElem?_cons_succ, c1, c2, c3, h1, h2, textOdd, Tryz.results48]
def nameP (s : List UInt8) : Bool := decide (1 ≤ s.length) && decide (s.length ≤ 50) && !s.any fun b => nameOdd b.toNat
def textP (s : List UInt8) : Bool := decide ([10] <:+ s) && !s.any fun b => textOdd b.toNat
theorem validName_eq (s : List UInt8) (σ) : ev 35 [.str s] σ = some (.bool (nameP s), σ) := by
  have h := ContainsFunc_any 57 (by rfl) nameOdd (fun x => ⟨_, nameOdd_eq x⟩) (fun x hx => by simp [nameOdd]; omega) s
  refine EV_post rfl Tryz.func35 rfl (by simp [Tryz.ntmps35]) (by kernel_rfl) (by kernel_rfl) ?_
  cases hs : s with
  | nil => simp (maxSteps := 4000000) [List.getElem?_cons_zero, List.getElem?_cons_succ, nameP, Tryz.results35]
  | cons c r =>
    rw [← hs]
    have h0 : (s == []) = false := by rw [hs]; rfl
    have h1 : 1 ≤ s.length := by rw [hs]; simp
    have h2 : ¬ s = [] := by rw [hs]; simp
    by_cases h50 : s.length ≤ 50
    · simp (maxSteps := 4000000) [List.getElem?_cons_zero, List.getElem?_cons_succ, h, h0, h1, h2, h50, nameP, Tryz.results35]
    · simp (maxSteps := 4000000) [List.getElem?_cons_zero, List.getElem?_cons_succ, h, h0, h1, h2, h50, nameP, Tryz.results35]
theorem validText_eq (s : List UInt8) (hs : s.length ≤ 2 ^ 40) (σ) : ev 24 [.str s] σ = some (.bool (textP s), σ) := by
  have h := ContainsFunc_any 48 (by rfl) textOdd (fun x => ⟨_, textOdd_eq x⟩) (fun x hx => by simp [textOdd]; omega) s
  have h1 : ∀ σ, ev 49 [.str s, .str [10]] σ = some (.bool (decide ([10] <:+ s)), σ) := by
    intro σ
    rw [ev_HasSuffix]
    simp only [hasSuffixT]
    rw [need_of (by omega)]
    have : Lib.hasSuffix s [10] = decide ([10] <:+ s) := by
      unfold Lib.hasSuffix; rw [Bool.eq_iff_iff, List.isSuffixOf_iff_suffix, decide_eq_true_iff]
    rw [this]
  refine EV_post rfl Tryz.func24 rfl (by simp [Tryz.ntmps24]) (by kernel_rfl) (by kernel_rfl) ?_
  by_cases hc : [10] <:+ s
  · simp (maxSteps := 4000000) [List.getElem?_cons_zero, List.getElem?_cons_succ, h, h1, hc, textP, Tryz.results24]
  · simp (maxSteps := 4000000) [List.getElem?_cons_zero, List.getElem?_cons_succ, h, h1, hc, textP, Tryz.results24]
theorem rname_eq (s : List UInt8) (hs : s.length ≤ 2 ^ 40) (σ) : ev 46 [.str s] σ = some (.bool (nameP s), σ) := by
  refine EV_post rfl Tryz.func46 rfl (by simp [Tryz.ntmps46]) (by kernel_rfl) (by kernel_rfl) ?_
  simp (maxSteps := 4000000) [List.getElem?_cons_zero, List.getElem?_cons_succ, ]
  refine Post_loop (I := fun i : Nat => ⟨[(0, .str s), (3, .int .i64 i)], [], σ⟩) (Pr := fun i => i ≤ s.length ∧ (s.take i).any (fun b => nameOdd b.toNat) = false) (μ := fun i => s.length - i) (a := 0) (by simp) (by simp) ?_
  rintro i ⟨hi, hn⟩
  by_cases hc : i < s.length
  · obtain ⟨x, hx⟩ : ∃ x, s[i]? = some x := ⟨_, List.getElem?_eq_getElem hc⟩
    have w1 : IntKind.i64.wrap ((i : Int) + 1) = (i : Int) + 1 := wrap64 (by omega)
    have c1 : decide ((x.toNat : Int) < 33) = decide (x.toNat < 33) := by rw [decide_eq_decide]; omega
    have c2 : decide ((126 : Int) < x.toNat) = decide (126 < x.toNat) := by rw [decide_eq_decide]; omega
    have c3 : decide ((x.toNat : Int) = 43) = decide (x.toNat = 43) := by rw [decide_eq_decide]; omega
    have hin : s.take (i + 1) = s.take i ++ [x] := by rw [List.take_add_one, hx]; rfl
    cases ho : nameOdd x.toNat with
    | true =>
      have hP : nameP s = false := by
        have : s.any (fun b => nameOdd b.toNat) = true := List.any_eq_true.2 ⟨x, List.mem_of_getElem? hx, ho⟩
        simp [nameP, this]
      by_cases h1 : x.toNat < 33
      · simp (maxSteps := 4000000) [List.getElem?_cons_zero, List.getElem?_cons_succ, -getElem?_pos, hc, hx, c1, h1, hP, Tryz.results46]
      · by_cases h2 : 126 < x.toNat
        · simp (maxSteps := 4000000) [List.getElem?_cons_zero, List.getElem?_cons_succ, -getElem?_pos, hc, hx, c1, c2, h1, h2, hP, Tryz.results46]
        · have h3 : x.toNat = 43 := by simp only [nameOdd, decide_eq_false h1, decide_eq_false h2, Bool.false_or, decide_eq_true_iff] at ho; exact ho
          simp (maxSteps := 4000000) [List.getElem?_cons_zero, List.getElem?_cons_succ, -getElem?_pos, hc, hx, c1, c2, c3, h1, h2, h3, hP, Tryz.results46]
    | false =>
      have hn' : (s.take (i + 1)).any (fun b => nameOdd b.toNat) = false := by rw [hin, List.any_append, hn]; simp [ho]
      simp only [nameOdd, Bool.or_eq_false_iff, decide_eq_false_iff_not] at ho
      simp (maxSteps := 4000000) [List.getElem?_cons_zero, List.getElem?_cons_succ, -getElem?_pos, hc, hx, c1, c2, c3, ho.1.1, ho.1.2, ho.2, w1]
      exact ⟨i + 1, ⟨by omega, by simpa using hn'⟩, by omega, by simp⟩
  · rw [List.take_of_length_le (by omega)] at hn
    have hP : nameP s = (decide (1 ≤ s.length) && decide (s.length ≤ 50)) := by simp [nameP, hn]
    have c1 : decide ((1 : Int) ≤ s.length) = decide (1 ≤ s.length) := by rw [decide_eq_decide]; omega
    have c2 : decide ((s.length : Int) ≤ 50) = decide (s.length ≤ 50) := by rw [decide_eq_decide]; omega
    by_cases h1 : 1 ≤ s.length
    · simp (maxSteps := 4000000) [List.getElem?_cons_zero, List.getElem?_cons_succ, hc, hP, c1, c2, h1, Tryz.results46]
    · simp (maxSteps := 4000000) [List.getElem?_cons_zero, List.getElem?_cons_succ, hc, hP, c1, c2, h1, Tryz.results46]
theorem rbody_eq (s : List UInt8) (hs : s.length ≤ 2 ^ 40) (σ) : ev 30 [.str s] σ = some (.bool (textP s), σ) := by
  have hE := Ends_eq s [10] hs (by simp)
  refine EV_post rfl Tryz.func30 rfl (by simp [Tryz.ntmps30]) (by kernel_rfl) (by kernel_rfl) ?_
  simp (maxSteps := 4000000) [List.getElem?_cons_zero, List.getElem?_cons_succ, ]
  refine Post_loop (I := fun i : Nat => ⟨[(0, .str s), (3, .int .i64 i)], [], σ⟩) (Pr := fun i => i ≤ s.length ∧ (s.take i).any (fun b => textOdd b.toNat) = false) (μ := fun i => s.length - i) (a := 0) (by simp) (by simp) ?_
  rintro i ⟨hi, hn⟩
  by_cases hc : i < s.length
  · obtain ⟨x, hx⟩ : ∃ x, s[i]? = some x := ⟨_, List.getElem?_eq_getElem hc⟩
    have w1 : IntKind.i64.wrap ((i : Int) + 1) = (i : Int) + 1 := wrap64 (by omega)
    have c1 : decide ((x.toNat : Int) < 32) = decide (x.toNat < 32) := by rw [decide_eq_decide]; omega
    have c2 : decide ((126 : Int) < x.toNat) = decide (126 < x.toNat) := by rw [decide_eq_decide]; omega
    have c3 : decide ((x.toNat : Int) = 10) = decide (x.toNat = 10) := by rw [decide_eq_decide]; omega
    have hin : s.take (i + 1) = s.take i ++ [x] := by rw [List.take_add_one, hx]; rfl
    cases ho : textOdd x.toNat with
    | true =>
      have hP : textP s = false := by
        have : s.any (fun b => textOdd b.toNat) = true := List.any_eq_true.2 ⟨x, List.mem_of_getElem? hx, ho⟩
        simp [textP, this]
      have h0 : ¬ x.toNat = 10 := by intro e; simp [textOdd, e] at ho
      have h0' : ¬ x = 10 := by intro e; subst e; exact h0 rfl
      by_cases h1 : x.toNat < 32
      · simp (maxSteps := 4000000) [List.getElem?_cons_zero, List.getElem?_cons_succ, -getElem?_pos, hc, hx, c1, c3, h0, h0', h1, hP, Tryz.results30]
      · have h2 : 126 < x.toNat := by simp [textOdd, h1] at ho; omega
        simp (maxSteps := 4000000) [List.getElem?_cons_zero, List.getElem?_cons_succ, -getElem?_pos, hc, hx, c1, c2, c3, h0, h0', h1, h2, hP, Tryz.results30]
    | false =>
      have hn' : (s.take (i + 1)).any (fun b => textOdd b.toNat) = false := by rw [hin, List.any_append, hn]; simp [ho]
      by_cases h0 : x = 10
      · have h0' : x.toNat = 10 := by rw [h0]; rfl
        simp (maxSteps := 4000000) [List.getElem?_cons_zero, List.getElem?_cons_succ, -getElem?_pos, hc, hx, c3, h0, h0', w1]
        exact ⟨i + 1, ⟨by omega, by simpa using hn'⟩, by omega, by simp⟩
      · have h0' : ¬ x.toNat = 10 := fun e => h0 (UInt8.toNat_inj.1 e)
        have h1 : ¬ x.toNat < 32 := by intro e; simp [textOdd, e, h0'] at ho
        have h2 : ¬ 126 < x.toNat := by intro e; simp [textOdd, e] at ho
        simp (maxSteps := 4000000) [List.getElem?_cons_zero, List.getElem?_cons_succ, -getElem?_pos, hc, hx, c1, c2, c3, h0, h0', h1, h2, w1]
        exact ⟨i + 1, ⟨by omega, by simpa using hn'⟩, by omega, by simp⟩
  · rw [List.take_of_length_le (by omega)] at hn
    have hP : textP s = decide ([10] <:+ s) := by simp [textP, hn]
    simp (maxSteps := 4000000) [List.getElem?_cons_zero, List.getElem?_cons_succ, hc, hP, hE, Tryz.results30]
end Go.Proofs.Tryz.Ai
end
section
/- Base64: both sides write it. -/
namespace Go.Proofs.Tryz.Ai
open Go Go.AI Go.Proofs Go.B64
set_option maxHeartbeats 4000000
set_option maxRecDepth 4000
set_option linter.unusedVariables false

theorem bor64 (a b k : Nat) (hb : b < 2 ^ k) (h : 2 ^ k * a + b < 2 ^ 63) : bits .or .i64 ((2 ^ k * a : Nat) : Int) (b : Int) = ((2 ^ k * a + b : Nat) : Int) := by
  have := or64 a b k hb h
  exact (congrArg (fun z : Nat => IntKind.i64.wrap (z : Int)) this).trans (wrap64 (by omega))
theorem band64 (a k : Nat) (h : a < 2 ^ 63) (hk : k < 63) : bits .and .i64 (a : Int) ((2 ^ k - 1 : Nat) : Int) = ((a % 2 ^ k : Nat) : Int) := by
  have := and64 a k h hk
  have h2 : a % 2 ^ k ≤ a := Nat.mod_le _ _
  exact (congrArg (fun z : Nat => IntKind.i64.wrap (z : Int)) this).trans (wrap64 (by omega))
theorem band63 (a : Nat) (h : a < 2 ^ 63) : bits .and .i64 (a : Int) 63 = ((a % 64 : Nat) : Int) := band64 a 6 h (by omega)
theorem fdivp (m l : Nat) : (m : Int).fdiv (2 ^ l) = ((m / 2 ^ l : Nat) : Int) := by
  rw [Int.fdiv_eq_ediv_of_nonneg _ (by exact Int.le_of_lt (Int.pow_pos (by omega)))]
  simp
/-- a Builder's box in a state whose first boxes are as they came -/
def BInv (σ S : List (List AV)) (q : Option (List UInt8)) : Prop := S[σ.length]? = some (bc σ.length q) ∧ S.take σ.length = σ
theorem BInv.lt {σ S : List (List AV)} {q : Option (List UInt8)} (h : BInv σ S q) : σ.length < S.length := (List.getElem?_eq_some_iff.1 h.1).1
theorem BInv.app {σ S : List (List AV)} {q : Option (List UInt8)} (h : BInv σ S q) (l : List (List AV)) : BInv σ (S ++ l) q :=
  ⟨by rw [List.getElem?_append_left h.lt]; exact h.1, by rw [List.take_append_of_le_length (Nat.le_of_lt h.lt)]; exact h.2⟩
theorem BInv.set {σ S : List (List AV)} {q : Option (List UInt8)} (h : BInv σ S q) (q' : Option (List UInt8)) : BInv σ (S.set σ.length (bc σ.length q')) q' :=
  ⟨by rw [List.getElem?_set, if_pos rfl, if_pos h.lt], by rw [List.take_set_of_le (Nat.le_refl _)]; exact h.2⟩
theorem BInv.low {σ S : List (List AV)} {q : Option (List UInt8)} (h : BInv σ S q) (c : List AV) : lowS σ (S.set σ.length c) := fun b hb => .inl (by
  rw [List.getElem?_set, if_neg (by omega)]
  have := congrArg (fun l : List (List AV) => l[b]?) h.2
  simp only [List.getElem?_take, if_pos hb] at this
  exact this)
theorem BInv.tk {σ S : List (List AV)} {q : Option (List UInt8)} (h : BInv σ S q) (c : List AV) : (S.set σ.length c).take σ.length = σ := by
  rw [List.take_set_of_le (Nat.le_refl _)]; exact h.2
theorem BInv.start (σ : List (List AV)) : BInv σ (σ ++ [bc σ.length none]) none := ⟨by simp, by simp⟩
theorem L64_get (n : Nat) (h : n < 64) : ([65, 66, 67, 68, 69, 70, 71, 72, 73, 74, 75, 76, 77, 78, 79, 80, 81, 82, 83, 84, 85, 86, 87, 88, 89, 90, 97, 98, 99, 100, 101, 102, 103, 104, 105, 106, 107, 108, 109, 110, 111, 112, 113, 114, 115, 116, 117, 118, 119, 120, 121, 122, 48, 49, 50, 51, 52, 53, 54, 55, 56, 57, 43, 47] : List UInt8)[n]? = some (lt n) := lt_get ⟨n, h⟩
theorem grp_at (x n i : Nat) (hi : i < 4) (hx : x < 2 ^ 24) : (grp x n)[i]? = some (if i > n then 61 else lt (x / 2 ^ (18 - 6 * i) % 64)) ∨ n = 0 := by
  by_cases hn : n = 0
  · exact .inr hn
  · left
    rcases (by omega : i = 0 ∨ i = 1 ∨ i = 2 ∨ i = 3) with rfl | rfl | rfl | rfl
    · simp only [grp, List.getElem?_cons_zero]; rw [if_neg (by omega), show x / 2 ^ (18 - 6 * 0) % 64 = x / 262144 by omega]
    · rfl
    · rfl
    · simp only [grp, List.getElem?_cons_zero, List.getElem?_cons_succ]; rw [show x / 2 ^ (18 - 6 * 3) = x by simp]
theorem Base64_eq (l : List UInt8) (hl : l.length ≤ 2 ^ 30) (σ : List (List AV)) : ev 28 [.sl .sh (l.map .u8)] σ = some (.str (b64 l), σ) := by
  refine EV_post rfl Tryz.func28 rfl (by simp [Tryz.ntmps28]) (by kernel_rfl) (by kernel_rfl) ?_
  simp (maxSteps := 4000000) [List.getElem?_cons_zero, List.getElem?_cons_succ, ]
  refine Post_loop (I := fun p : List UInt8 × Option (List UInt8) × List (List AV) => ⟨[(0, .sl .sh (p.1.map .u8)), (3, .gp σ.length 0 (some (SB, 2)))], [], p.2.2⟩)
    (Pr := fun p => p.1.length ≤ 2 ^ 30 ∧ (txt p.2.1).length ≤ 2 ^ 31 ∧ txt p.2.1 ++ b64 p.1 = b64 l ∧ BInv σ p.2.2 p.2.1) (μ := fun p => p.1.length) (a := (l, none, σ ++ [bc σ.length none])) (by simp [bc, SB]) ⟨hl, by simp, by simp, BInv.start σ⟩ ?_
  rintro ⟨r, q, S⟩ ⟨hr, hq, he, hB⟩
  simp only at hr hq he hB ⊢
  have hfl : (b64 l).length ≤ 2 ^ 31 := by rw [b64_len]; omega
  cases r with
  | nil =>
    have hs := String_b σ.length S q hB.1
    have h1 := hB.low (bs σ.length q)
    have h2 := hB.tk (bs σ.length q)
    have h3 : txt q = b64 l := by simpa [b64] using he
    simp (maxSteps := 4000000) [List.getElem?_cons_zero, List.getElem?_cons_succ, hs, need_of h1, h2, h3, Tryz.results28]
  | cons a r0 =>
    -- the number of a group, and how many bytes it has
    obtain ⟨n, x, R, hn, hx, hR, hg⟩ : ∃ (n x : Nat) (R : List UInt8), (n = min (a :: r0).length 3) ∧ x = a.toNat * 65536 + (r0.getD 0 0).toNat * 256 + (r0.getD 1 0).toNat ∧ R = (a :: r0).drop n ∧ b64 (a :: r0) = grp x n ++ b64 R := by
      match r0 with
      | [] => exact ⟨1, a.toNat * 65536, [], by simp, by simp, rfl, by rw [b64_one]; simp [b64]⟩
      | [b] => exact ⟨2, a.toNat * 65536 + b.toNat * 256, [], by simp, by simp, rfl, by rw [b64_two]; simp [b64]⟩
      | b :: c :: r => exact ⟨3, a.toNat * 65536 + b.toNat * 256 + c.toNat, r, by simp, by simp, rfl, by rw [b64_three]⟩
    have ha := a.toNat_lt
    have hb := (r0.getD 0 0).toNat_lt
    have hc := (r0.getD 1 0).toNat_lt
    obtain ⟨g1, hg1⟩ : ∃ g, r0.getD 0 0 = g := ⟨_, rfl⟩
    obtain ⟨g2, hg2⟩ : ∃ g, r0.getD 1 0 = g := ⟨_, rfl⟩
    rw [hg1, hg2] at hx
    rw [hg1] at hb
    rw [hg2] at hc
    have hn3 : n ≤ 3 ∧ 1 ≤ n ∧ n ≤ r0.length + 1 := by rw [hn]; simp; omega
    have hmin : (if (3 : Int) < (r0.length : Int) + 1 then (3 : Int) else (r0.length : Int) + 1) = (n : Int) := by rw [hn]; simp only [List.length_cons]; split <;> omega
    obtain ⟨A, hA⟩ : ∃ A, 2 ^ 16 * a.toNat = A := ⟨_, rfl⟩
    obtain ⟨B, hBB⟩ : ∃ B, g1.toNat * 256 = B := ⟨_, rfl⟩
    obtain ⟨C, hC⟩ : ∃ C, 2 ^ 8 * (a.toNat * 256 + g1.toNat) = C := ⟨_, rfl⟩
    have w0 : IntKind.i64.wrap ((a.toNat : Int) * 65536) = (A : Int) := by rw [wrap64 (by omega)]; omega
    have w1 : IntKind.i64.wrap ((g1.toNat : Int) * 256) = (B : Int) := by rw [wrap64 (by omega)]; omega
    have o1 := bor64 a.toNat B 16 (by omega) (by omega)
    have o2 := bor64 (a.toNat * 256 + g1.toNat) g2.toNat 8 (by omega) (by omega)
    rw [hA, show A + B = C by omega] at o1
    rw [hC, show C + g2.toNat = x by omega] at o2
    have hx24 : x < 2 ^ 24 := by omega
    obtain ⟨L, hL⟩ : ∃ L, a :: r0 = L := ⟨_, rfl⟩
    have hLl : L.length = r0.length + 1 := by rw [← hL]; rfl
    rw [hL] at hR hg he hr
    rw [hg] at he
    have hfx : (txt q).length + 4 ≤ 2 ^ 31 := by have := congrArg List.length he; simp [grp_len] at this; omega
    obtain ⟨D, hD⟩ : ∃ D : List (List AV), D = [[.int .u8 (a.toNat : Int), .int .u8 (g1.toNat : Int), .int .u8 (g2.toNat : Int)]] := ⟨_, rfl⟩
    have hbt : IntKind.i64.bits = 64 := rfl
    have w00 : IntKind.i64.wrap 0 = 0 := rfl
    have p8 : (2 : Int) ^ 8 = 256 := by decide
    have p16 : (2 : Int) ^ 16 = 65536 := by decide
    have hpos0 : ∀ k : Nat, 0 < (k : Int) + 1 + 1 + 1 := fun k => by omega
    rcases r0 with _ | ⟨b, _ | ⟨c, r⟩⟩
    all_goals
      simp at hn
      try simp at hg1
      try simp at hg2
      try subst hg1
      try subst hg2
      try (simp at hBB; subst hBB)
      try simp at o1
      try simp at w1
      try simp at o2
      try simp at hD
      try simp at hmin
      try rw [hn] at hmin
      simp (maxSteps := 4000000) [List.getElem?_cons_zero, List.getElem?_cons_succ, wrap64_byte, hbt, w00, p8, p16, hmin, w0, w1, o1, o2, hpos0]
      repeat (rw [need_of]; rotate_left; (· (try unfold most); omega); simp (maxSteps := 4000000) [List.getElem?_cons_zero, List.getElem?_cons_succ, wrap64_byte, hbt, w00, p8, p16, hmin, w0, w1, o1, o2, hpos0])
      refine Post_loop (I := fun p : Nat × Option (List UInt8) × List (List AV) => ⟨[(0, .sl .sh (L.map .u8)), (3, .gp σ.length 0 (some (SB, 2))), (4, .int .i64 n), (6, .int .i64 x), (36, .int .i64 p.1)], [], p.2.2⟩)
        (Pr := fun p => p.1 ≤ 4 ∧ txt p.2.1 = txt q ++ (grp x n).take p.1 ∧ BInv σ p.2.2 p.2.1) (μ := fun p => 4 - p.1) (a := (0, q, S ++ D)) (by simp [← hL, hn, hD]) ⟨by simp, by simp, hB.app _⟩ ?_
      rintro ⟨i, q2, S2⟩ ⟨hi, hq2, hB2⟩
      simp only at hi hq2 hB2 ⊢
      have hql : (txt q2).length + 1 ≤ most := by
        have := congrArg List.length hq2
        simp [grp_len] at this
        unfold most; omega
      by_cases hc : i < 4
      · have w3 : IntKind.i64.wrap ((i : Int) + 1) = (i : Int) + 1 := wrap64 (by omega)
        have hin2 : (grp x n).take (i + 1) = (grp x n).take i ++ [if i > n then 61 else lt (x / 2 ^ (18 - 6 * i) % 64)] := by
          rw [List.take_add_one, (grp_at x n i hc hx24).resolve_right (by omega)]; rfl
        by_cases hin : n < i
        · have hw := WriteByte_b σ.length S2 q2 hql 61 hB2.1
          simp [AV.u8] at hw
          simp (maxSteps := 4000000) [List.getElem?_cons_zero, List.getElem?_cons_succ, hc, hin, hw, w3]
          refine ⟨i + 1, some (txt q2 ++ [61]), _, ⟨by omega, ?_, hB2.set _⟩, by omega, by simp, rfl⟩
          rw [hin2, if_pos hin, ← List.append_assoc, ← hq2]; rfl
        · have w4 : IntKind.i64.wrap (6 * (i : Int)) = ((6 * i : Nat) : Int) := by rw [wrap64 (by omega)]; omega
          have w5 : IntKind.i64.wrap (18 - ((6 * i : Nat) : Int)) = ((18 - 6 * i : Nat) : Int) := by rw [wrap64 (by omega)]; omega
          obtain ⟨k, hk⟩ : ∃ k, 18 - 6 * i = k := ⟨_, rfl⟩
          rw [hk] at w5 hin2
          obtain ⟨m, hm⟩ : ∃ m, 6 * i = m := ⟨_, rfl⟩
          rw [hm] at w4 w5
          have f1 := fdivp x k
          have hlt' : x / 2 ^ k < 2 ^ 63 := by have := Nat.div_le_self x (2 ^ k); omega
          have f2 := band63 (x / 2 ^ k) hlt'
          obtain ⟨y, hy⟩ : ∃ y, x / 2 ^ k = y := ⟨_, rfl⟩
          rw [hy] at f1 f2 hin2
          obtain ⟨z, hz⟩ : ∃ z, y % 64 = z := ⟨_, rfl⟩
          rw [hz] at f2 hin2
          have f3 := L64_get z (by omega)
          have hw := WriteByte_b σ.length S2 q2 hql (lt z) hB2.1
          simp only [AV.u8] at hw
          have hk0 : ¬ ((k : Nat) : Int) < 0 := by omega
          have hk1 : min k 64 = k := by omega
          simp (maxSteps := 4000000) [List.getElem?_cons_zero, List.getElem?_cons_succ, -getElem?_pos, hc, hin, w3, w4, w5, hk0, hk1, hbt, f1, f2, f3, hw]
          refine ⟨i + 1, some (txt q2 ++ [lt z]), _, ⟨by omega, ?_, hB2.set _⟩, by omega, by simp, rfl⟩
          rw [hin2, if_neg hin, ← List.append_assoc, ← hq2]; rfl
      · have hi4 : i = 4 := by omega
        rw [hi4, List.take_of_length_le (by rw [grp_len]; omega)] at hq2
        have hnL : n ≤ L.length := by omega
        have hd : List.drop n (L.map AV.u8) = R.map .u8 := by rw [hR, List.map_drop]
        have hRl : R.length < L.length := by rw [hR, List.length_drop]; omega
        have hqq : (txt q2).length ≤ 2 ^ 31 := by rw [hq2, List.length_append, grp_len]; omega
        have hee : txt q2 ++ b64 R = b64 l := by rw [hq2, List.append_assoc]; exact he
        have hRb : R.length ≤ 2 ^ 30 := by omega
        rw [← hL] at hRl
        simp only [List.length_cons, List.length_nil] at hRl
        simp (maxSteps := 4000000) [List.getElem?_cons_zero, List.getElem?_cons_succ, hc, hd, hnL]
        exact ⟨R, q2, S2, ⟨by omega, by omega, hee, hB2⟩, by first | omega | exact List.eq_nil_of_length_eq_zero (by omega), by simp⟩
end Go.Proofs.Tryz.Ai
end
section
/- Base64: the document's side writes it. -/
namespace Go.Proofs.Tryz.Ai
open Go Go.AI Go.Proofs Go.B64
set_option maxHeartbeats 4000000
set_option maxRecDepth 4000
set_option linter.unusedVariables false

/-- as many full groups as there are bytes for, the last one filled up by zeros -/
def full64 : List UInt8 → List UInt8
  | [] => []
  | [a] => grp (a.toNat * 65536) 3
  | [a, b] => grp (a.toNat * 65536 + b.toNat * 256) 3
  | a :: b :: c :: r => grp (a.toNat * 65536 + b.toNat * 256 + c.toNat) 3 ++ full64 r
theorem full64_len (l : List UInt8) : (full64 l).length = 4 * ((l.length + 2) / 3) := by
  induction l using full64.induct with
  | case1 => rfl
  | case2 a => simp [full64, grp_len]
  | case3 a b => simp [full64, grp_len]
  | case4 a b c r ih => simp only [full64, List.length_append, List.length_cons, ih, grp_len]; omega
theorem set_app {k : Nat} (a b : List UInt8) (i : Nat) (x : UInt8) (h : i = a.length + k) : (a ++ b).set i x = a ++ b.set k x := by
  rw [h, List.set_append_right _ _ (by omega)]; congr 2; omega
/-- the signs at the end -/
theorem full64_sign (l : List UInt8) : (l.length % 3 = 0 → full64 l = b64 l) ∧ (l.length % 3 = 2 → 2 ≤ (full64 l).length ∧ (full64 l).set ((full64 l).length - 1) 61 = b64 l) ∧
    (l.length % 3 = 1 → 2 ≤ (full64 l).length ∧ ((full64 l).set ((full64 l).length - 2) 61).set ((full64 l).length - 1) 61 = b64 l) := by
  induction l using full64.induct with
  | case1 => simp [full64, b64]
  | case2 a =>
    refine ⟨fun h => by simp at h, fun h => by simp at h, fun _ => ⟨by simp [full64, grp_len], ?_⟩⟩
    rw [b64_one]; rfl
  | case3 a b =>
    refine ⟨fun h => by simp at h, fun _ => ⟨by simp [full64, grp_len], ?_⟩, fun h => by simp at h⟩
    rw [b64_two]; rfl
  | case4 a b c r ih =>
    obtain ⟨h0, h2, h1⟩ := ih
    simp only [List.length_cons]
    refine ⟨fun h => ?_, fun h => ?_, fun h => ?_⟩
    · rw [b64_three, full64, h0 (by omega)]
    · obtain ⟨k1, k2⟩ := h2 (by omega)
      simp only [full64, List.length_append, grp_len]
      refine ⟨by omega, ?_⟩
      rw [b64_three, set_app (k := (full64 r).length - 1) _ _ _ _ (by rw [grp_len]; omega), k2]
    · obtain ⟨k1, k2⟩ := h1 (by omega)
      simp only [full64, List.length_append, grp_len]
      refine ⟨by omega, ?_⟩
      rw [b64_three, set_app (k := (full64 r).length - 2) _ _ _ _ (by rw [grp_len]; omega), set_app (k := (full64 r).length - 1) _ _ _ _ (by rw [grp_len]; omega), k2]
theorem grp3 (x : Nat) : grp x 3 = [lt (x / 262144), lt (x / 4096 % 64), lt (x / 64 % 64), lt (x % 64)] := rfl
/-- what is written so far: nothing, or a box -/
def wAV (b : Nat) (w : List UInt8) : AV := match w with
  | [] => .sl (.ex 5 1) []
  | _ :: _ => .ms 5 1 b 0 w.length
theorem wAV_cons (b : Nat) (w : List UInt8) (h : w ≠ []) : wAV b w = .ms 5 1 b 0 w.length := by cases w with | nil => exact absurd rfl h | cons _ _ => rfl
theorem full64_cons (a : UInt8) (r0 : List UInt8) : full64 (a :: r0) = grp (a.toNat * 65536 + (r0.getD 0 0).toNat * 256 + (r0.getD 1 0).toNat) 3 ++ full64 (r0.drop 2) := by
  match r0 with
  | [] => simp [full64]
  | [b] => simp [full64]
  | b :: c :: r => simp [full64]
/-- a box of this call's own -/
def OInv (σ S : List (List AV)) (b : Nat) (w : List UInt8) : Prop := S.take σ.length = σ ∧ σ.length ≤ S.length ∧ (w ≠ [] → σ.length ≤ b ∧ S[b]? = some (w.map .u8))
theorem OInv.low {σ S : List (List AV)} {b : Nat} {w : List UInt8} (h : OInv σ S b w) : lowS σ S := fun k hk => .inl (by
  have := congrArg (fun l : List (List AV) => l[k]?) h.1
  simp only [List.getElem?_take, if_pos hk] at this
  exact this)
theorem OInv.first {σ S : List (List AV)} {b : Nat} {w : List UInt8} (h : OInv σ S b w) (w' : List UInt8) : OInv σ (S ++ [w'.map .u8]) S.length w' :=
  ⟨by rw [List.take_append_of_le_length h.2.1]; exact h.1, by have := h.2.1; simp only [List.length_append]; omega, fun _ => ⟨h.2.1, by simp⟩⟩
theorem OInv.next {σ S : List (List AV)} {b : Nat} {w : List UInt8} (h : OInv σ S b w) (hw : w ≠ []) (w' : List UInt8) : OInv σ (S.set b [] ++ [w'.map .u8]) S.length w' :=
  ⟨by rw [List.take_append_of_le_length (by simp; exact h.2.1), List.take_set_of_le (h.2.2 hw).1]; exact h.1, by have := h.2.1; simp only [List.length_append, List.length_set]; omega, fun _ => ⟨h.2.1, by simp⟩⟩
theorem OInv.write {σ S : List (List AV)} {b : Nat} {w : List UInt8} (h : OInv σ S b w) (hw : w ≠ []) (w' : List UInt8) : OInv σ (S.set b (w'.map .u8)) b w' :=
  ⟨by rw [List.take_set_of_le (h.2.2 hw).1]; exact h.1, by rw [List.length_set]; exact h.2.1, fun _ => ⟨(h.2.2 hw).1, by rw [List.getElem?_set, if_pos rfl, if_pos (List.getElem?_eq_some_iff.1 (h.2.2 hw).2).1]⟩⟩
theorem rBase64_eq (l : List UInt8) (hl : l.length ≤ 2 ^ 30) (σ : List (List AV)) : ev 31 [.sl .sh (l.map .u8)] σ = some (.str (b64 l), σ) := by
  refine EV_post rfl Tryz.func31 rfl (by simp [Tryz.ntmps31]) (by kernel_rfl) (by kernel_rfl) ?_
  simp (maxSteps := 4000000) [List.getElem?_cons_zero, List.getElem?_cons_succ, ]
  have hfl : (full64 l).length ≤ 2 ^ 31 := by rw [full64_len]; omega
  refine Post_loop (I := fun p : Nat × List UInt8 × Nat × List (List AV) => ⟨[(0, .sl .sh (l.map .u8)), (3, wAV p.2.2.1 p.2.1), (4, .int .i64 p.1)], [], p.2.2.2⟩)
    (Pr := fun p => p.1 ≤ l.length + 2 ∧ p.2.1 ++ full64 (l.drop p.1) = full64 l ∧ OInv σ p.2.2.2 p.2.2.1 p.2.1) (μ := fun p => l.length + 3 - p.1) (a := (0, [], 0, σ)) (by simp [wAV]) ⟨by simp, by simp, by simp, by simp, fun h => absurd rfl h⟩ ?_
  rintro ⟨i, w, b, S⟩ ⟨hi, he, hO⟩
  simp only at hi he hO ⊢
  have hwl : w.length ≤ 2 ^ 31 := by have := congrArg List.length he; simp at this; omega
  by_cases hc : i < l.length
  · obtain ⟨a, r0, hd⟩ : ∃ a r, l.drop i = a :: r := ⟨_, _, List.drop_eq_getElem_cons hc⟩
    have ha : l[i]? = some a := by have := congrArg (fun z : List UInt8 => z[0]?) hd; simpa [List.getElem?_drop] using this
    have hr0 : l.drop (i + 1) = r0 := by have := congrArg (List.drop 1) hd; simpa [List.drop_drop] using this
    have hr2 : l.drop (i + 3) = r0.drop 2 := by rw [← hr0, List.drop_drop]
    have hf := full64_cons a r0
    rw [hd, hf] at he
    have g1 : (r0.getD 0 0).toNat = (if i + 1 < l.length then (r0.getD 0 0).toNat else 0) := by
      split
      · rfl
      · rw [← hr0, List.drop_of_length_le (by omega)]; rfl
    obtain ⟨bb, hb⟩ : ∃ b, r0.getD 0 0 = b := ⟨_, rfl⟩
    obtain ⟨cc, hcc⟩ : ∃ c, r0.getD 1 0 = c := ⟨_, rfl⟩
    rw [hb, hcc] at he
    have hab := a.toNat_lt
    have hbb := bb.toNat_lt
    have hcb := cc.toNat_lt
    have w1 : IntKind.i64.wrap ((i : Int) + 1) = ((i + 1 : Nat) : Int) := by rw [wrap64 (by omega)]; omega
    have w2 : IntKind.i64.wrap ((i : Int) + 2) = ((i + 2 : Nat) : Int) := by rw [wrap64 (by omega)]; omega
    have w3 : IntKind.i64.wrap ((i : Int) + 3) = ((i + 3 : Nat) : Int) := by rw [wrap64 (by omega)]; omega
    obtain ⟨i1, hi1⟩ : ∃ k, i + 1 = k := ⟨_, rfl⟩
    obtain ⟨i2, hi2⟩ : ∃ k, i + 2 = k := ⟨_, rfl⟩
    obtain ⟨i3, hi3⟩ : ∃ k, i + 3 = k := ⟨_, rfl⟩
    rw [hi1] at w1; rw [hi2] at w2; rw [hi3] at w3
    obtain ⟨A, hA⟩ : ∃ A, a.toNat * 65536 = A := ⟨_, rfl⟩
    obtain ⟨B, hB⟩ : ∃ B, bb.toNat * 256 = B := ⟨_, rfl⟩
    have v1 : IntKind.i64.wrap ((a.toNat : Int) * 65536) = (A : Int) := by rw [wrap64 (by omega)]; omega
    have v2 : IntKind.i64.wrap ((bb.toNat : Int) * 256) = (B : Int) := by rw [wrap64 (by omega)]; omega
    rw [hA, hB] at he
    obtain ⟨x, hx⟩ : ∃ x, A + B + cc.toNat = x := ⟨_, rfl⟩
    rw [hx] at he
    have d1 : ((x : Int).tdiv 262144) = ((x / 262144 : Nat) : Int) := by rw [Int.tdiv_eq_ediv_of_nonneg (by omega)]; simp
    have d2 : ((x : Int).tdiv 4096) = ((x / 4096 : Nat) : Int) := by rw [Int.tdiv_eq_ediv_of_nonneg (by omega)]; simp
    have d3 : ((x : Int).tdiv 64) = ((x / 64 : Nat) : Int) := by rw [Int.tdiv_eq_ediv_of_nonneg (by omega)]; simp
    have m2 : (((x / 4096 : Nat) : Int).tmod 64) = ((x / 4096 % 64 : Nat) : Int) := by rw [Int.tmod_eq_emod_of_nonneg (by omega)]; simp
    have m3 : (((x / 64 : Nat) : Int).tmod 64) = ((x / 64 % 64 : Nat) : Int) := by rw [Int.tmod_eq_emod_of_nonneg (by omega)]; simp
    have m4 : ((x : Int).tmod 64) = ((x % 64 : Nat) : Int) := by rw [Int.tmod_eq_emod_of_nonneg (by omega)]; simp
    have u1 := L64_get (x / 262144) (by omega)
    have u2 := L64_get (x / 4096 % 64) (by omega)
    have u3 := L64_get (x / 64 % 64) (by omega)
    have u4 := L64_get (x % 64) (by omega)
    have e1 : IntKind.i64.wrap ((x / 262144 : Nat) : Int) = ((x / 262144 : Nat) : Int) := wrap64 (by omega)
    have e2 : IntKind.i64.wrap ((x / 4096 : Nat) : Int) = ((x / 4096 : Nat) : Int) := wrap64 (by omega)
    have e3 : IntKind.i64.wrap ((x / 64 : Nat) : Int) = ((x / 64 : Nat) : Int) := wrap64 (by omega)
    rw [grp3] at he
    obtain ⟨k1, hk1⟩ : ∃ k, x / 262144 = k := ⟨_, rfl⟩
    obtain ⟨k2, hk2⟩ : ∃ k, x / 4096 % 64 = k := ⟨_, rfl⟩
    obtain ⟨k3, hk3⟩ : ∃ k, x / 64 % 64 = k := ⟨_, rfl⟩
    obtain ⟨k4, hk4⟩ : ∃ k, x % 64 = k := ⟨_, rfl⟩
    rw [hk1] at d1 u1 e1 he
    rw [hk2] at m2 u2 he
    rw [hk3] at m3 u3 he
    rw [hk4] at m4 u4 he
    obtain ⟨y2, hy2⟩ : ∃ k, x / 4096 = k := ⟨_, rfl⟩
    obtain ⟨y3, hy3⟩ : ∃ k, x / 64 = k := ⟨_, rfl⟩
    rw [hy2] at d2 m2 e2
    rw [hy3] at d3 m3 e3
    have hmost : w.length + 4 ≤ most := by unfold most; omega
    have hm4 : 4 ≤ most := by unfold most; omega
    rw [hi3] at hr2
    have hend : w ++ [lt k1, lt k2, lt k3, lt k4] ++ full64 (l.drop i3) = full64 l := by rw [hr2, List.append_assoc]; exact he
    have zg : ∀ (k : Nat) (y : UInt8), r0[k]? = some y → l[i + 1 + k]? = some y := fun k y h => by rw [← hr0, List.getElem?_drop] at h; exact h
    by_cases c1 : i1 < l.length
    · have q1 : l[i1]? = some bb := by
        rw [← hi1]
        refine zg 0 bb ?_
        rw [← hr0, List.getElem?_drop, ← hb, ← hr0, List.getD_eq_getElem?_getD, List.getElem?_drop, List.getElem?_eq_getElem (by omega)]; rfl
      have v3 : IntKind.i64.wrap ((A : Int) + (B : Int)) = ((A + B : Nat) : Int) := by rw [wrap64 (by omega)]; omega
      by_cases c2 : i2 < l.length
      · have q2 : l[i2]? = some cc := by
          rw [show i2 = i + 1 + 1 by omega]
          refine zg 1 cc ?_
          rw [← hr0, List.getElem?_drop, ← hcc, ← hr0, List.getD_eq_getElem?_getD, List.getElem?_drop, List.getElem?_eq_getElem (by omega)]; rfl
        obtain ⟨Y, hY⟩ : ∃ Y, A + B = Y := ⟨_, rfl⟩
        rw [hY] at v3
        have v4 : IntKind.i64.wrap ((Y : Int) + (cc.toNat : Int)) = (x : Int) := by rw [wrap64 (by omega)]; omega
        cases w with
        | nil =>
          have hO' := hO.first [lt k1, lt k2, lt k3, lt k4]
          simp only [wAV]
          simp (maxSteps := 4000000) [List.getElem?_cons_zero, List.getElem?_cons_succ, -getElem?_pos, hc, ha, wrap64_byte, v1, w1, c1, q1, v2, v3, w2, c2, q2, v4, d1, d2, d3, m2, m3, m4, u1, u2, u3, u4, e1, e2, e3, w3, need_of hm4, hm4]
          exact ⟨i3, [lt k1, lt k2, lt k3, lt k4], S.length, _, ⟨by omega, by simpa using hend, hO'⟩, by omega, by simp, by simp⟩
        | cons c w =>
          obtain ⟨h1, h2⟩ := hO.2.2 (by simp)
          have hO' := hO.next (by simp) (c :: w ++ [lt k1, lt k2, lt k3, lt k4])
          simp only [wAV]
          obtain ⟨W, hW⟩ : ∃ W, (c :: w).map AV.u8 = W := ⟨_, rfl⟩
          have hWl : W.length = (c :: w).length := by rw [← hW]; simp
          have hW2 : (c :: w ++ [lt k1, lt k2, lt k3, lt k4]).map AV.u8 = W ++ [lt k1, lt k2, lt k3, lt k4].map AV.u8 := by rw [List.map_append, hW]
          rw [hW2] at hO'
          rw [hW] at h2
          obtain ⟨n, hn⟩ : ∃ n, (c :: w).length = n := ⟨_, rfl⟩
          have hn0 : 0 < n := by rw [← hn]; simp
          rw [hn] at hWl hmost ⊢
          simp (maxSteps := 4000000) [List.getElem?_cons_zero, List.getElem?_cons_succ, -getElem?_pos, hc, ha, wrap64_byte, v1, w1, c1, q1, v2, v3, w2, c2, q2, v4, d1, d2, d3, m2, m3, m4, u1, u2, u3, u4, e1, e2, e3, w3, hn0, h2, hWl, hmost]
          simp at hn
          exact ⟨i3, c :: w ++ [lt k1, lt k2, lt k3, lt k4], S.length, _, ⟨by omega, hend, hO'⟩, by omega, by simp; omega, by simp⟩
      · have hc0 : cc = 0 := by rw [← hcc, ← hr0, List.getD_eq_getElem?_getD, List.getElem?_drop, List.getElem?_eq_none (by omega)]; rfl
        have hx0 : A + B = x := by rw [hc0] at hx; simp at hx; omega
        rw [hx0] at v3
        cases w with
        | nil =>
          have hO' := hO.first [lt k1, lt k2, lt k3, lt k4]
          simp only [wAV]
          simp (maxSteps := 4000000) [List.getElem?_cons_zero, List.getElem?_cons_succ, -getElem?_pos, hc, ha, wrap64_byte, v1, w1, c1, q1, v2, v3, w2, c2, d1, d2, d3, m2, m3, m4, u1, u2, u3, u4, e1, e2, e3, w3, need_of hm4, hm4]
          exact ⟨i3, [lt k1, lt k2, lt k3, lt k4], S.length, _, ⟨by omega, by simpa using hend, hO'⟩, by omega, by simp, by simp⟩
        | cons c w =>
          obtain ⟨h1, h2⟩ := hO.2.2 (by simp)
          have hO' := hO.next (by simp) (c :: w ++ [lt k1, lt k2, lt k3, lt k4])
          simp only [wAV]
          obtain ⟨W, hW⟩ : ∃ W, (c :: w).map AV.u8 = W := ⟨_, rfl⟩
          have hWl : W.length = (c :: w).length := by rw [← hW]; simp
          have hW2 : (c :: w ++ [lt k1, lt k2, lt k3, lt k4]).map AV.u8 = W ++ [lt k1, lt k2, lt k3, lt k4].map AV.u8 := by rw [List.map_append, hW]
          rw [hW2] at hO'
          rw [hW] at h2
          obtain ⟨n, hn⟩ : ∃ n, (c :: w).length = n := ⟨_, rfl⟩
          have hn0 : 0 < n := by rw [← hn]; simp
          rw [hn] at hWl hmost ⊢
          simp (maxSteps := 4000000) [List.getElem?_cons_zero, List.getElem?_cons_succ, -getElem?_pos, hc, ha, wrap64_byte, v1, w1, c1, q1, v2, v3, w2, c2, d1, d2, d3, m2, m3, m4, u1, u2, u3, u4, e1, e2, e3, w3, hn0, h2, hWl, hmost]
          simp at hn
          exact ⟨i3, c :: w ++ [lt k1, lt k2, lt k3, lt k4], S.length, _, ⟨by omega, hend, hO'⟩, by omega, by simp; omega, by simp⟩
    · have hb0 : bb = 0 := by rw [← hb, ← hr0, List.drop_of_length_le (by omega)]; rfl
      have hc0 : cc = 0 := by rw [← hcc, ← hr0, List.drop_of_length_le (by omega)]; rfl
      have hxA : x = A := by rw [hb0] at hB; rw [hc0] at hx; simp at hB hx; omega
      subst hxA
      have c2 : ¬ i2 < l.length := by omega
      cases w with
      | nil =>
        have hO' := hO.first [lt k1, lt k2, lt k3, lt k4]
        simp only [wAV]
        simp (maxSteps := 4000000) [List.getElem?_cons_zero, List.getElem?_cons_succ, -getElem?_pos, hc, ha, wrap64_byte, v1, w1, c1, w2, c2, d1, d2, d3, m2, m3, m4, u1, u2, u3, u4, e1, e2, e3, w3, need_of hm4, hm4]
        exact ⟨i3, [lt k1, lt k2, lt k3, lt k4], S.length, _, ⟨by omega, by simpa using hend, hO'⟩, by omega, by simp, by simp⟩
      | cons c w =>
        obtain ⟨h1, h2⟩ := hO.2.2 (by simp)
        have hO' := hO.next (by simp) (c :: w ++ [lt k1, lt k2, lt k3, lt k4])
        simp only [wAV]
        obtain ⟨W, hW⟩ : ∃ W, (c :: w).map AV.u8 = W := ⟨_, rfl⟩
        have hWl : W.length = (c :: w).length := by rw [← hW]; simp
        have hW2 : (c :: w ++ [lt k1, lt k2, lt k3, lt k4]).map AV.u8 = W ++ [lt k1, lt k2, lt k3, lt k4].map AV.u8 := by rw [List.map_append, hW]
        rw [hW2] at hO'
        rw [hW] at h2
        obtain ⟨n, hn⟩ : ∃ n, (c :: w).length = n := ⟨_, rfl⟩
        have hn0 : 0 < n := by rw [← hn]; simp
        rw [hn] at hWl hmost ⊢
        simp (maxSteps := 4000000) [List.getElem?_cons_zero, List.getElem?_cons_succ, -getElem?_pos, hc, ha, wrap64_byte, v1, w1, c1, w2, c2, d1, d2, d3, m2, m3, m4, u1, u2, u3, u4, e1, e2, e3, w3, hn0, h2, hWl, hmost]
        simp at hn
        exact ⟨i3, c :: w ++ [lt k1, lt k2, lt k3, lt k4], S.length, _, ⟨by omega, hend, hO'⟩, by omega, by simp; omega, by simp⟩
  · have hw : w = full64 l := by rw [List.drop_of_length_le (by omega)] at he; simpa [full64] using he
    obtain ⟨s0, s2, s1⟩ := full64_sign l
    have z1 : ((l.length : Int).tmod 3) = ((l.length % 3 : Nat) : Int) := by rw [Int.tmod_eq_emod_of_nonneg (by omega)]; simp
    obtain ⟨r, hr⟩ : ∃ r, l.length % 3 = r := ⟨_, rfl⟩
    rw [hr] at z1 s0 s1 s2
    have hlow := hO.low
    cases hw' : w with
    | nil =>
      have h0 : full64 l = [] := by rw [← hw, hw']
      have hr0 : r = 0 := by
        rcases (by omega : r = 0 ∨ r = 1 ∨ r = 2) with h | h | h
        · exact h
        · have := (s1 h).1; rw [h0] at this; simp at this
        · have := (s2 h).1; rw [h0] at this; simp at this
      subst hr0
      have hb : b64 l = [] := by rw [← s0 rfl, h0]
      simp only [wAV]
      simp (maxSteps := 4000000) [List.getElem?_cons_zero, List.getElem?_cons_succ, hc, z1, hb, need_of hlow, hO.1, show bytesOf [] = some [] from rfl, Tryz.results31]
    | cons c w' =>
      have hne : w ≠ [] := by rw [hw']; simp
      rw [← hw']
      obtain ⟨h1, h2⟩ := hO.2.2 hne
      rw [wAV_cons _ _ hne]
      have hbS : b < S.length := (List.getElem?_eq_some_iff.1 h2).1
      rw [← hw] at s0 s1 s2
      have setw : ∀ (v : List UInt8) (m : Nat), m < v.length → (v.map AV.u8).take m ++ AV.int .u8 61 :: (v.map AV.u8).drop (m + 1) = (v.set m 61).map .u8 := by
        intro v m hm
        rw [List.set_eq_take_append_cons_drop, if_pos hm, List.map_append, List.map_cons, List.map_take, List.map_drop]; rfl
      obtain ⟨n, hn⟩ : ∃ n, w.length = n := ⟨_, rfl⟩
      have props : ∀ v : List UInt8, v.length = n → bytesOf (v.map .u8) = some v ∧ (v.map AV.u8).map dem = v.map .u8 ∧ (v.map AV.u8).length = n ∧ (v.map AV.u8).take n = v.map .u8 := fun v hv => ⟨bytesOf_map v, map_dem_u8, by simp [hv], by rw [List.take_of_length_le (by simp [hv])]⟩
      have hgS : ∀ (S : List (List AV)) (c : List AV), b < S.length → (S.set b c)[b]? = some c := fun S c h => by rw [List.getElem?_set, if_pos rfl, if_pos h]
      have hbS' : ∀ c, b < (S.set b c).length := fun c => by rw [List.length_set]; exact hbS
      obtain ⟨a1, a2, a3, a4⟩ := props w hn
      have hwn : w.length = n := hn
      rw [hn] at s1 s2 ⊢
      rcases (by omega : r = 0 ∨ r = 2 ∨ r = 1) with h | h | h
      · subst h
        have e0 := s0 rfl
        obtain ⟨W, hW⟩ : ∃ W, w.map AV.u8 = W := ⟨_, rfl⟩
        rw [hW] at h2 a1 a2 a3 a4
        simp (maxSteps := 4000000) [List.getElem?_cons_zero, List.getElem?_cons_succ, -getElem?_pos, hc, z1, h2, a1, a2, a3, a4, need_of hlow, hO.1, e0, Tryz.results31]
      · subst h
        obtain ⟨g1, g2⟩ := s2 rfl
        obtain ⟨m, hm⟩ : ∃ m, n - 1 = m := ⟨_, rfl⟩
        rw [hm] at g2
        have x1 := setw w m (by omega)
        have hl2 : (w.set m 61).length = n := by simp [hwn]
        obtain ⟨b1, b2, b3, b4⟩ := props _ hl2
        have hO2 := hO.write hne (w.set m 61)
        have hlow2 := hO2.low
        have htk2 := hO2.1
        have hg2 := hgS S ((w.set m 61).map .u8) hbS
        have w1 : IntKind.i64.wrap ((n : Int) - 1) = (m : Int) := by rw [wrap64 (by omega)]; omega
        have w2 : m < n := by omega
        have w3 : m + 1 ≤ n := by omega
        rw [g2] at b1 b2 b3 b4 x1 hlow2 htk2 hg2
        obtain ⟨W, hW⟩ : ∃ W, w.map AV.u8 = W := ⟨_, rfl⟩
        obtain ⟨V, hV⟩ : ∃ V, (b64 l).map AV.u8 = V := ⟨_, rfl⟩
        rw [hW] at h2 a1 a2 a3 a4 x1
        rw [hV] at b1 b2 b3 b4 x1 hlow2 htk2 hg2
        simp (maxSteps := 4000000) [List.getElem?_cons_zero, List.getElem?_cons_succ, -getElem?_pos, hc, z1, h2, a3, w1, w2, w3, x1, hg2, b1, b2, b3, b4, need_of hlow2, htk2, Tryz.results31]
      · subst h
        obtain ⟨g1, g2⟩ := s1 rfl
        obtain ⟨m, hm⟩ : ∃ m, n - 1 = m := ⟨_, rfl⟩
        obtain ⟨k, hk⟩ : ∃ k, n - 2 = k := ⟨_, rfl⟩
        rw [hm, hk] at g2
        have x1 := setw w k (by omega)
        have hl1 : (w.set k 61).length = n := by simp [hwn]
        have x2 := setw (w.set k 61) m (by omega)
        have hl2 : ((w.set k 61).set m 61).length = n := by simp [hwn]
        obtain ⟨c1, c2, c3, c4⟩ := props _ hl1
        obtain ⟨b1, b2, b3, b4⟩ := props _ hl2
        have hO1 := hO.write hne (w.set k 61)
        have hne1 : w.set k 61 ≠ [] := fun e => by rw [e] at hl1; simp at hl1; omega
        have hO2 := hO1.write hne1 ((w.set k 61).set m 61)
        have hlow2 := hO2.low
        have htk2 := hO2.1
        have hg1 := hgS S ((w.set k 61).map .u8) hbS
        have hg2 := hgS (S.set b ((w.set k 61).map .u8)) (((w.set k 61).set m 61).map .u8) (hbS' _)
        rw [g2] at b1 b2 b3 b4 x2 hlow2 htk2 hg2
        have w1 : IntKind.i64.wrap ((n : Int) - 1) = (m : Int) := by rw [wrap64 (by omega)]; omega
        have w4 : IntKind.i64.wrap ((n : Int) - 2) = (k : Int) := by rw [wrap64 (by omega)]; omega
        have w2 : m < n := by omega
        have w3 : m + 1 ≤ n := by omega
        have w5 : k < n := by omega
        have w6 : k + 1 ≤ n := by omega
        obtain ⟨W, hW⟩ : ∃ W, w.map AV.u8 = W := ⟨_, rfl⟩
        obtain ⟨U, hU⟩ : ∃ U, (w.set k 61).map AV.u8 = U := ⟨_, rfl⟩
        obtain ⟨V, hV⟩ : ∃ V, (b64 l).map AV.u8 = V := ⟨_, rfl⟩
        rw [hW] at h2 a1 a2 a3 a4 x1
        rw [hU] at x1 x2 hlow2 htk2 hg1 hg2 c3
        rw [hV] at b1 b2 b3 b4 x2 hlow2 htk2 hg2
        obtain ⟨S1, hS1⟩ : ∃ S1, S.set b U = S1 := ⟨_, rfl⟩
        rw [hS1] at hlow2 htk2 hg1 hg2
        obtain ⟨S2, hS2⟩ : ∃ S2, S1.set b V = S2 := ⟨_, rfl⟩
        rw [hS2] at hlow2 htk2 hg2
        simp (maxSteps := 4000000) [List.getElem?_cons_zero, List.getElem?_cons_succ, -getElem?_pos, -List.set_set, hc, z1, h2, a3, w1, w2, w3, w4, w5, w6, x1, hS1, hg1, c3, x2, hS2, hg2, b1, b2, b3, b4, need_of hlow2, htk2, Tryz.results31]
end Go.Proofs.Tryz.Ai
end
section
/- Base64: the program's side reads it. -/
namespace Go.Proofs.Tryz.Ai
open Go Go.AI Go.Proofs Go.B64
set_option maxHeartbeats 4000000
set_option maxRecDepth 4000
set_option linter.unusedVariables false

theorem idx_plc : ∀ n : Fin 256, Lib.indexByte L64 (UInt8.ofNat n.val) = plc (UInt8.ofNat n.val) := by decide +kernel
theorem place_cases (c : UInt8) : plc c = -1 ∨ ∃ v : Nat, v < 64 ∧ plc c = (v : Int) ∧ lt v = c := by
  unfold plc
  by_cases h : L64.contains c = true
  · right
    rw [if_pos h]
    have hm : c ∈ L64 := by simpa using h
    have hl := List.idxOf_lt_length_of_mem hm
    refine ⟨L64.idxOf c, hl, rfl, ?_⟩
    unfold lt
    rw [List.getD_eq_getElem?_getD, List.getElem?_eq_getElem hl]
    simp
  · left; rw [if_neg h]
theorem IndexL_eq (c : UInt8) (σ) : ev 90 [.str [65, 66, 67, 68, 69, 70, 71, 72, 73, 74, 75, 76, 77, 78, 79, 80, 81, 82, 83, 84, 85, 86, 87, 88, 89, 90, 97, 98, 99, 100, 101, 102, 103, 104, 105, 106, 107, 108, 109, 110, 111, 112, 113, 114, 115, 116, 117, 118, 119, 120, 121, 122, 48, 49, 50, 51, 52, 53, 54, 55, 56, 57, 43, 47], .int .u8 c.toNat] σ = some (.int .i64 (plc c), σ) := by
  have h1 : ∀ σ, ev 105 [.str L64, .int .u8 c.toNat] σ = some (.int .i64 (plc c), σ) := by
    intro σ
    rw [ev_index]
    have := idx_plc ⟨c.toNat, c.toNat_lt⟩
    simp only [UInt8.ofNat_toNat] at this
    simp [indexT, this]
  dsimp only
  show ev 90 [.str L64, .int .u8 c.toNat] σ = _
  generalize L64 = L at *
  refine EV_post rfl Tryz.func90 rfl (by simp [Tryz.ntmps90]) (by kernel_rfl) (by kernel_rfl) ?_
  simp (maxSteps := 4000000) [List.getElem?_cons_zero, List.getElem?_cons_succ, h1, Tryz.results90]
theorem wrapu8_nat (n : Nat) : IntKind.u8.wrap (n : Int) = ((UInt8.ofNat (n % 256)).toNat : Int) := by
  simp only [IntKind.wrap, IntKind.signed, IntKind.bits]; simp
theorem st64_props (l : List UInt8) (hv : ∀ c ∈ l, plc c ≠ -1) : let a := (l.map fun c => (plc c).toNat).foldl st64 ([], 0, 0); a.2.1 < 65536 ∧ a.2.2 ≤ 7 ∧ a.1.length ≤ l.length := by
  have key : ∀ (l : List Nat) (a : List UInt8 × Nat × Nat), (∀ v ∈ l, v < 64) → a.2.1 < 65536 → a.2.2 ≤ 7 → (l.foldl st64 a).2.1 < 65536 ∧ (l.foldl st64 a).2.2 ≤ 7 ∧ (l.foldl st64 a).1.length ≤ a.1.length + l.length := by
    intro l
    induction l with
    | nil => intro a _ h1 h2; exact ⟨h1, h2, by simp⟩
    | cons v r ih =>
      intro a h h1 h2
      have hv := h v (by simp)
      have := ih (st64 a v) (fun u hu => h u (by simp [hu])) (by unfold st64; split <;> (simp only; omega)) (by unfold st64; split <;> (simp only; omega))
      rw [List.foldl_cons]
      refine ⟨this.1, this.2.1, Nat.le_trans this.2.2 ?_⟩
      unfold st64
      split <;> (simp only [List.length_append, List.length_cons, List.length_nil]; omega)
  have := key (l.map fun c => (plc c).toNat) ([], 0, 0) (fun v hv' => by
    obtain ⟨c, hc, rfl⟩ := List.mem_map.1 hv'
    rcases place_cases c with h | ⟨v, h1, h2, _⟩
    · exact absurd h (hv c hc)
    · omega) (by simp) (by simp)
  simpa using this
noncomputable def fromR (s : List UInt8) : List UInt8 × Int := match from64 s with
  | some b => (b, 0)
  | none => ([], 15)
theorem fromR_some {s b : List UInt8} (h : from64 s = some b) : fromR s = (b, 0) := by unfold fromR; rw [h]
theorem fromR_none {s : List UInt8} (h : from64 s = none) : fromR s = ([], 15) := by unfold fromR; rw [h]
theorem fromR_len (s : List UInt8) : (fromR s).1.length ≤ s.length := by
  unfold fromR
  cases h : from64 s with
  | none => simp
  | some b => exact from64_len h
theorem FromBase64_eq (s : List UInt8) (hs : s.length ≤ 2 ^ 29) (σ) : ev 77 [.str s] σ = some (.tup [.sl .sh ((fromR s).1.map .u8), .int .i64 (fromR s).2], σ) := by
  have hT : ∀ σ, ev 89 [.str s, .str [61]] σ = some (.str (Lib.trimRightB s 61), σ) := by
    intro σ
    rw [ev_TrimRight]
    simp only [trimRightT]
    rw [need_of ⟨by omega, by decide⟩]
  obtain ⟨L, hL⟩ : ∃ L, Lib.trimRightB s 61 = L := ⟨_, rfl⟩
  rw [hL] at hT
  have hLs : L.length ≤ s.length := by
    rw [← hL]; unfold Lib.trimRightB
    have h1 : s.reverse.length = s.length := List.length_reverse
    have h2 := (List.dropWhile_sublist (fun x => x == 61) (l := s.reverse)).length_le
    rw [List.length_reverse]; omega
  -- what stands for bytes has good letters
  have hgood : ∀ b, from64 s = some b → L = (vals b).map lt := fun b h => by
    rw [← hL, ← from64_some h]; exact trim_b64 b
  refine EV_post rfl Tryz.func77 rfl (by simp [Tryz.ntmps77]) (by kernel_rfl) (by kernel_rfl) ?_
  simp (maxSteps := 4000000) [List.getElem?_cons_zero, List.getElem?_cons_succ, hT]
  refine Post_loop (I := fun p : Nat × List UInt8 × Nat × Nat => ⟨[(0, .str s), (4, .str L), (5, .sl (.ex 5 1) (p.2.1.map .u8)), (6, .int .i64 p.2.2.1), (7, .int .i64 p.2.2.2), (8, .int .i64 p.1)], [], σ⟩)
    (Pr := fun p => p.1 ≤ L.length ∧ (∀ c ∈ L.take p.1, plc c ≠ -1) ∧ p.2 = ((L.take p.1).map fun c => (plc c).toNat).foldl st64 ([], 0, 0)) (μ := fun p => L.length - p.1) (a := (0, [], 0, 0)) (by simp) (by simp) ?_
  rintro ⟨i, o, x, b⟩ ⟨hi, hv, he⟩
  simp only at hi hv he ⊢
  obtain ⟨p1, p2, p3⟩ := st64_props _ hv
  rw [← he] at p1 p2 p3
  simp only [List.length_take] at p1 p2 p3
  by_cases hc : i < L.length
  · obtain ⟨c, hx⟩ : ∃ c, L[i]? = some c := ⟨_, List.getElem?_eq_getElem hc⟩
    have hI := IndexL_eq c
    dsimp only at hI
    rcases place_cases c with hp | ⟨v, hv64, hp, hlt⟩
    · have hR : fromR s = ([], 15) := by
        refine fromR_none ?_
        cases hf : from64 s with
        | none => rfl
        | some bb =>
          have h1 := hgood bb hf
          rw [h1] at hx
          obtain ⟨v, hv1, hv2⟩ := List.mem_map.1 (List.mem_of_getElem? hx)
          rw [← hv2, lt_plc v (vals_lt bb v hv1)] at hp
          omega
      rw [hp] at hI
      simp (maxSteps := 4000000) [List.getElem?_cons_zero, List.getElem?_cons_succ, -getElem?_pos, hc, hx, hI, hR, Tryz.results77]
    · rw [hp] at hI
      have htk : L.take (i + 1) = L.take i ++ [c] := by rw [List.take_add_one, hx]; rfl
      have hv' : ∀ c ∈ L.take (i + 1), plc c ≠ -1 := by
        rw [htk]; intro c' hc'
        rcases List.mem_append.1 hc' with h | h
        · exact hv c' h
        · simp at h; subst h; omega
      have he' : ((L.take (i + 1)).map fun c => (plc c).toNat).foldl st64 ([], 0, 0) = st64 (o, x, b) v := by
        rw [htk, List.map_append, List.foldl_append, ← he]
        simp [hp]
      have w1 : IntKind.i64.wrap ((i : Int) + 1) = (i : Int) + 1 := wrap64 (by omega)
      have w2 : IntKind.i64.wrap ((x : Int) * 64) = ((x * 64 : Nat) : Int) := by rw [wrap64 (by omega)]; omega
      have b1 := band64 (x * 64) 16 (by omega) (by omega)
      have hxm : x * 64 % 2 ^ 16 = 2 ^ 6 * (x % 1024) := by omega
      rw [hxm] at b1
      have b2 := bor64 (x % 1024) v 6 (by omega) (by omega)
      have hxn : 2 ^ 6 * (x % 1024) + v = x * 64 % 65536 + v := by omega
      rw [hxn] at b2
      obtain ⟨y, hy⟩ : ∃ y, x * 64 % 65536 + v = y := ⟨_, rfl⟩
      obtain ⟨z, hz⟩ : ∃ z, 2 ^ 6 * (x % 1024) = z := ⟨_, rfl⟩
      obtain ⟨u, hu⟩ : ∃ u, x * 64 = u := ⟨_, rfl⟩
      rw [hy, hz] at b2
      rw [hz, hu] at b1
      rw [hu] at w2
      have w3 : IntKind.i64.wrap ((b : Int) + 6) = ((b + 6 : Nat) : Int) := by rw [wrap64 (by omega)]; omega
      have hb64 : ((2 ^ 16 - 1 : Nat) : Int) = 65535 := by decide
      rw [hb64] at b1
      have p6 : (2 : Int) ^ 6 = 64 := by decide
      have hbt : IntKind.i64.bits = 64 := rfl
      obtain ⟨B, hB⟩ : ∃ B, b + 6 = B := ⟨_, rfl⟩
      rw [hB] at w3
      by_cases h8 : 8 ≤ B
      · have w4 : IntKind.i64.wrap ((B : Int) - 8) = ((B - 8 : Nat) : Int) := by rw [wrap64 (by omega)]; omega
        obtain ⟨m, hm⟩ : ∃ m, B - 8 = m := ⟨_, rfl⟩
        rw [hm] at w4
        have f1 := fdivp y m
        have w5 := wrapu8_nat (y / 2 ^ m)
        have hst : st64 (o, x, b) v = (o ++ [UInt8.ofNat (y / 2 ^ m % 256)], y, m) := by
          unfold st64; simp only; rw [if_pos (by omega), hy, hB, hm]
        rw [hst] at he'
        obtain ⟨q, hq⟩ : ∃ q, y / 2 ^ m = q := ⟨_, rfl⟩
        rw [hq] at f1 w5 he'
        have n1 : ¬ (m : Int) < 0 := by omega
        have n2 : min m 64 = m := by omega
        have hmost : o.length + 1 ≤ most := by unfold most; omega
        simp (maxSteps := 4000000) [List.getElem?_cons_zero, List.getElem?_cons_succ, -getElem?_pos, hc, hx, hI, w1, w2, w3, w4, w5, b1, b2, p6, hbt, h8, f1, n1, n2, hmost]
        exact ⟨i + 1, o ++ [UInt8.ofNat (q % 256)], y, m, ⟨by omega, hv', by rw [List.map_take] at he'; exact he'.symm⟩, by omega, by simp, rfl, rfl, by simp⟩
      · have hst : st64 (o, x, b) v = (o, y, B) := by
          unfold st64; simp only; rw [if_neg (by omega), hy, hB]
        rw [hst] at he'
        simp (maxSteps := 4000000) [List.getElem?_cons_zero, List.getElem?_cons_succ, -getElem?_pos, hc, hx, hI, w1, w2, w3, b1, b2, p6, hbt, h8]
        exact ⟨i + 1, o, y, B, ⟨by omega, hv', by rw [List.map_take] at he'; exact he'.symm⟩, by omega, rfl, rfl, rfl, by simp⟩
  · have hi' : i = L.length := by omega
    rw [hi', List.take_length] at he
    have hB := Base64_eq o (by omega)
    by_cases hq : b64 o = s
    · have hR : fromR s = (o, 0) := fromR_some (by rw [← hq]; exact from64_b64 o)
      simp (maxSteps := 4000000) [List.getElem?_cons_zero, List.getElem?_cons_succ, hc, hB, hq, hR, Tryz.results77]
    · have hR : fromR s = ([], 15) := by
        refine fromR_none ?_
        cases hf : from64 s with
        | none => rfl
        | some bb =>
          exfalso; apply hq
          have h1 := hgood bb hf
          rw [h1, List.map_map] at he
          have h2 : (vals bb).map ((fun c => (plc c).toNat) ∘ lt) = vals bb := by
            conv => rhs; rw [← List.map_id (vals bb)]
            apply List.map_congr_left
            intro v hv
            simp [lt_plc v (vals_lt bb v hv)]
          rw [h2] at he
          have h3 := vals_fold bb [] 0
          rw [← he] at h3
          simp only [List.nil_append] at h3
          rw [h3]; exact from64_some hf
      simp (maxSteps := 4000000) [List.getElem?_cons_zero, List.getElem?_cons_succ, hc, hB, hq, hR, Tryz.results77]
end Go.Proofs.Tryz.Ai
end
section
/- Base64: the document's side reads it. -/
namespace Go.Proofs.Tryz.Ai
open Go Go.AI Go.Proofs Go.B64
set_option maxHeartbeats 4000000
set_option maxRecDepth 4000
set_option linter.unusedVariables false

/-- a number of the first letters of a group -/
def numk (s : List UInt8) (i : Nat) : Nat → Nat
  | 0 => 0
  | k + 1 => numk s i k * 64 + pl0 (s.getD (i + k) 0)
theorem numk_lt (s : List UInt8) (i k : Nat) : numk s i k < 64 ^ k := by
  induction k with
  | zero => simp [numk]
  | succ k ih =>
    have : pl0 (s.getD (i + k) 0) < 64 := by
      have := pl0_le ⟨(s.getD (i + k) 0).toNat, (s.getD (i + k) 0).toNat_lt⟩
      simpa using this
    rw [numk, Nat.pow_succ]; omega
theorem wrapu8_div (n m : Nat) : IntKind.u8.wrap ((n / m : Nat) : Int) = ((UInt8.ofNat (n / m % 256)).toNat : Int) := wrapu8_nat _
end Go.Proofs.Tryz.Ai
end
section
/- Keys: both sides. -/
namespace Go.Proofs.Tryz.Ai
open Go Go.AI Go.Proofs Go.B64
set_option maxHeartbeats 4000000
set_option maxRecDepth 4000
set_option linter.unusedVariables false

theorem bor32 (a b k : Nat) (hb : b < 2 ^ k) (h : 2 ^ k * a + b < 2 ^ 32) : bits .or .u32 ((2 ^ k * a : Nat) : Int) (b : Int) = ((2 ^ k * a + b : Nat) : Int) := by
  have : (BitVec.ofInt 32 ((2 ^ k * a : Nat) : Int) ||| BitVec.ofInt 32 (b : Int)).toNat = 2 ^ k * a + b := by
    rw [BitVec.toNat_or, BitVec.ofInt_natCast, BitVec.ofInt_natCast, BitVec.toNat_ofNat, BitVec.toNat_ofNat, Nat.mod_eq_of_lt (by omega), Nat.mod_eq_of_lt (by omega), ← Nat.two_pow_add_eq_or_of_lt hb]
  exact (congrArg (fun z : Nat => IntKind.u32.wrap (z : Int)) this).trans (wrapU32 (by omega))
/-- four bytes as a number -/
def idN (b : List UInt8) : Nat := (b.getD 0 0).toNat * 16777216 + (b.getD 1 0).toNat * 65536 + (b.getD 2 0).toNat * 256 + (b.getD 3 0).toNat
theorem idN_lt (b : List UInt8) : idN b < 2 ^ 32 := by
  have := (b.getD 0 0).toNat_lt; have := (b.getD 1 0).toNat_lt; have := (b.getD 2 0).toNat_lt; have := (b.getD 3 0).toNat_lt
  unfold idN; omega
theorem four (b : List UInt8) (h : 4 ≤ b.length) : ∃ a0 a1 a2 a3 r, b = a0 :: a1 :: a2 :: a3 :: r := by
  match b, h with
  | a0 :: a1 :: a2 :: a3 :: r, _ => exact ⟨a0, a1, a2, a3, r, rfl⟩
theorem idN_take (b c : List UInt8) (hb : 4 ≤ b.length) (hc : 4 ≤ c.length) : idN b = idN c ↔ b.take 4 = c.take 4 := by
  obtain ⟨a0, a1, a2, a3, r, rfl⟩ := four b hb
  obtain ⟨b0, b1, b2, b3, r', rfl⟩ := four c hc
  have := a0.toNat_lt; have := a1.toNat_lt; have := a2.toNat_lt; have := a3.toNat_lt
  have := b0.toNat_lt; have := b1.toNat_lt; have := b2.toNat_lt; have := b3.toNat_lt
  simp only [idN, List.getD_cons_zero, List.getD_cons_succ, List.take_succ_cons, List.take_zero, List.cons.injEq, and_true]
  constructor
  · intro h
    exact ⟨UInt8.toNat_inj.1 (by omega), UInt8.toNat_inj.1 (by omega), UInt8.toNat_inj.1 (by omega), UInt8.toNat_inj.1 (by omega)⟩
  · rintro ⟨rfl, rfl, rfl, rfl⟩; rfl
theorem or_four (a0 a1 a2 a3 : UInt8) : bits .or .u32 (bits .or .u32 (bits .or .u32 (IntKind.u32.wrap ((a0.toNat : Int) * 16777216)) (IntKind.u32.wrap ((a1.toNat : Int) * 65536))) (IntKind.u32.wrap ((a2.toNat : Int) * 256))) (a3.toNat : Int) = ((a0.toNat * 16777216 + a1.toNat * 65536 + a2.toNat * 256 + a3.toNat : Nat) : Int) := by
  have := a0.toNat_lt; have := a1.toNat_lt; have := a2.toNat_lt; have := a3.toNat_lt
  have w0 : IntKind.u32.wrap ((a0.toNat : Int) * 16777216) = ((2 ^ 24 * a0.toNat : Nat) : Int) := by rw [wrapU32 (by omega)]; omega
  have w1 : IntKind.u32.wrap ((a1.toNat : Int) * 65536) = ((a1.toNat * 65536 : Nat) : Int) := by rw [wrapU32 (by omega)]; omega
  have w2 : IntKind.u32.wrap ((a2.toNat : Int) * 256) = ((a2.toNat * 256 : Nat) : Int) := by rw [wrapU32 (by omega)]; omega
  rw [w0, w1, w2, bor32 _ _ 24 (by omega) (by omega), show 2 ^ 24 * a0.toNat + a1.toNat * 65536 = 2 ^ 16 * (a0.toNat * 256 + a1.toNat) by omega, bor32 _ _ 16 (by omega) (by omega),
    show 2 ^ 16 * (a0.toNat * 256 + a1.toNat) + a2.toNat * 256 = 2 ^ 8 * (a0.toNat * 65536 + a1.toNat * 256 + a2.toNat) by omega, bor32 _ _ 8 (by omega) (by omega)]
  congr 1; omega
theorem id_eq (b : List UInt8) (h : 4 ≤ b.length) (σ) : ev 47 [.sl .sh (b.map .u8)] σ = some (.int .u32 (idN b), σ) := by
  obtain ⟨a0, a1, a2, a3, r, rfl⟩ := four b h
  have hor := or_four a0 a1 a2 a3
  have hid : idN (a0 :: a1 :: a2 :: a3 :: r) = a0.toNat * 16777216 + a1.toNat * 65536 + a2.toNat * 256 + a3.toNat := rfl
  have hbt : IntKind.u32.bits = 32 := rfl
  have p8 : (2 : Int) ^ 8 = 256 := by decide
  have p16 : (2 : Int) ^ 16 = 65536 := by decide
  have p24 : (2 : Int) ^ 24 = 16777216 := by decide
  rw [hid]
  generalize hM : a0.toNat * 16777216 + a1.toNat * 65536 + a2.toNat * 256 + a3.toNat = M at *
  refine EV_post rfl Tryz.func47 rfl (by simp [Tryz.ntmps47]) (by kernel_rfl) (by kernel_rfl) ?_
  simp (maxSteps := 4000000) [List.getElem?_cons_zero, List.getElem?_cons_succ, wrapU32_byte, hbt, p8, p16, p24, hor, Tryz.results47]
def keyAV (n s : List UInt8) : AV := .agg [.str n, .str s]
def rkeyAV (n s : List UInt8) : AV := .agg [.str n, .sl .sh (s.map .u8)]
/-- a key's number, whole; h: its secret's hash -/
def idH (n h : List UInt8) : List UInt8 := sha256 (n ++ [10, 1] ++ h)
def sigH (h text : List UInt8) : List UInt8 := sha256 (2 :: (h ++ text))
theorem idH_len (n h : List UInt8) : (idH n h).length = 32 := sha256_len _
theorem sigH_len (n h : List UInt8) : (sigH n h).length = 32 := sha256_len _
def goodK (n s : List UInt8) : Bool := nameP n && decide (1 ≤ s.length) && decide (s.length ≤ 64)
theorem Name_eq (n s : List UInt8) (σ) : ev 21 [keyAV n s] σ = some (.str n, σ) := by
  unfold keyAV
  refine EV_post rfl Tryz.func21 rfl (by simp [Tryz.ntmps21]) (by kernel_rfl) (by kernel_rfl) ?_
  simp (maxSteps := 4000000) [List.getElem?_cons_zero, List.getElem?_cons_succ, Tryz.results21]
theorem ID_eq (n h : List UInt8) (hn : n.length ≤ 2 ^ 20) (hh : h.length ≤ 2 ^ 20) (σ) : ev 22 [keyAV n h] σ = some (.int .u32 (idN (idH n h)), σ) := by
  have hS := SHA256_eq .sh (n ++ [10, 1] ++ h) (by simp; omega)
  have hI := id_eq (idH n h) (by rw [idH_len]; omega)
  unfold idH keyAV at *
  have q1 : n.length + 2 ≤ most := by unfold most; omega
  have q2 : n.length + 2 + h.length ≤ most := by unfold most; omega
  have q3 : n.length + (h.length + 2) ≤ most := by unfold most; omega
  have q4 : n.length + (h.length + 1 + 1) ≤ most := by unfold most; omega
  refine EV_post rfl Tryz.func22 rfl (by simp [Tryz.ntmps22]) (by kernel_rfl) (by kernel_rfl) ?_
  simp (maxSteps := 4000000) [List.getElem?_cons_zero, List.getElem?_cons_succ, -List.append_assoc, -List.map_append, hS, hI, q1, q2, q3, q4, Tryz.results22]
theorem Sign_eq (n h text : List UInt8) (hh : h.length ≤ 2 ^ 20) (ht : text.length ≤ 2 ^ 24) (σ) : ev 9 [keyAV n h, .str text] σ = some (.sl (.ex 5 1) ((sigH h text).map .u8), σ) := by
  have hS := SHA256_eq (.ex 5 1) (2 :: (h ++ text)) (by simp; omega)
  have hS' := SHA256_eq .sh (2 :: (h ++ text)) (by simp; omega)
  simp only [List.map_cons, AV.u8, show ((UInt8.toNat 2 : Nat) : Int) = 2 from rfl] at hS hS'
  unfold sigH keyAV at *
  have q1 : 1 + h.length ≤ most := by unfold most; omega
  have q2 : h.length + text.length + 1 ≤ most := by unfold most; omega
  have q3 : h.length + 1 ≤ most := by unfold most; omega
  have q4 : h.length + 1 + text.length ≤ most := by unfold most; omega
  refine EV_post rfl Tryz.func9 rfl (by simp [Tryz.ntmps9]) (by kernel_rfl) (by kernel_rfl) ?_
  simp (maxSteps := 4000000) [List.getElem?_cons_zero, List.getElem?_cons_succ, -List.map_append, hS, hS', q1, q2, q3, q4, Tryz.results9]
theorem Verify_eq (n h text sig : List UInt8) (hh : h.length ≤ 2 ^ 20) (ht : text.length ≤ 2 ^ 24) (σ) : ev 12 [keyAV n h, .str text, .sl .sh (sig.map .u8)] σ = some (.bool (sigH h text == sig), σ) := by
  have hS := Sign_eq n h text hh ht
  have hE := Equal_eq .sh .sh (sigH h text) sig
  unfold keyAV at *
  generalize sigH h text = X at *
  refine EV_post rfl Tryz.func12 rfl (by simp [Tryz.ntmps12]) (by kernel_rfl) (by kernel_rfl) ?_
  simp (maxSteps := 4000000) [List.getElem?_cons_zero, List.getElem?_cons_succ, hS, hE, Tryz.results12]
theorem NewKey_eq (n s : List UInt8) (hs : s.length ≤ 2 ^ 20) (σ) : ev 14 [.str n, .sl .sh (s.map .u8)] σ = some (.tup [if goodK n s then keyAV n (sha256 s) else keyAV [] [], .int .i64 (if goodK n s then 0 else 20)], σ) := by
  have hV := validName_eq n
  have hS := SHA256_eq .sh s (by omega)
  have hb := bytesOf_map (sha256 s)
  unfold keyAV
  obtain ⟨X, hX⟩ : ∃ X, sha256 s = X := ⟨_, rfl⟩
  rw [hX] at hS hb ⊢
  refine EV_post rfl Tryz.func14 rfl (by simp [Tryz.ntmps14]) (by kernel_rfl) (by kernel_rfl) ?_
  by_cases h1 : nameP n = true
  · by_cases h2 : s.length < 1
    · have hg : goodK n s = false := by unfold goodK; rw [decide_eq_false (show ¬ 1 ≤ s.length by omega)]; simp
      simp (maxSteps := 4000000) [List.getElem?_cons_zero, List.getElem?_cons_succ, hV, h1, h2, hg, Tryz.results14]
    · by_cases h3 : 64 < s.length
      · have hg : goodK n s = false := by unfold goodK; rw [decide_eq_false (show ¬ s.length ≤ 64 by omega)]; simp
        simp (maxSteps := 4000000) [List.getElem?_cons_zero, List.getElem?_cons_succ, hV, h1, h2, h3, hg, Tryz.results14]
      · have hg : goodK n s = true := by unfold goodK; rw [h1, decide_eq_true (show 1 ≤ s.length by omega), decide_eq_true (show s.length ≤ 64 by omega)]; rfl
        simp (maxSteps := 4000000) [List.getElem?_cons_zero, List.getElem?_cons_succ, -AV.u8, hV, h1, h2, h3, hg, hS, hb, Tryz.results14]
  · have hg : goodK n s = false := by unfold goodK; simp only [Bool.not_eq_true] at h1; rw [h1]; rfl
    simp (maxSteps := 4000000) [List.getElem?_cons_zero, List.getElem?_cons_succ, hV, h1, hg, Tryz.results14]
theorem Good_eq (n s : List UInt8) (hn : n.length ≤ 2 ^ 20) (σ) : ev 20 [rkeyAV n s] σ = some (.bool (goodK n s), σ) := by
  have hV := rname_eq n (by omega)
  unfold rkeyAV
  refine EV_post rfl Tryz.func20 rfl (by simp [Tryz.ntmps20]) (by kernel_rfl) (by kernel_rfl) ?_
  by_cases h1 : nameP n = true
  · by_cases h2 : 1 ≤ s.length
    · by_cases h3 : s.length ≤ 64
      · have hg : goodK n s = true := by unfold goodK; rw [h1, decide_eq_true h2, decide_eq_true h3]; rfl
        simp (maxSteps := 4000000) [List.getElem?_cons_zero, List.getElem?_cons_succ, hV, h1, h2, h3, hg, Tryz.results20]
      · have hg : goodK n s = false := by unfold goodK; rw [decide_eq_false h3]; simp
        simp (maxSteps := 4000000) [List.getElem?_cons_zero, List.getElem?_cons_succ, hV, h1, h2, h3, hg, Tryz.results20]
    · have hg : goodK n s = false := by unfold goodK; rw [decide_eq_false h2]; simp
      simp (maxSteps := 4000000) [List.getElem?_cons_zero, List.getElem?_cons_succ, hV, h1, h2, hg, Tryz.results20]
  · have hg : goodK n s = false := by unfold goodK; simp only [Bool.not_eq_true] at h1; rw [h1]; rfl
    simp (maxSteps := 4000000) [List.getElem?_cons_zero, List.getElem?_cons_succ, hV, h1, hg, Tryz.results20]
theorem rID_eq (n s : List UInt8) (hn : n.length ≤ 2 ^ 20) (hs : s.length ≤ 2 ^ 20) (σ) : ev 32 [rkeyAV n s] σ = some (.sl .sh (((idH n (sha256 s)).take 4).map .u8), σ) := by
  have hS := rSHA256_eq .sh s (by omega)
  have hl := sha256_len s
  obtain ⟨X, hX⟩ : ∃ X, sha256 s = X := ⟨_, rfl⟩
  rw [hX] at hS hl
  have hS1 := rSHA256_eq .sh (n ++ [10, 1] ++ X) (by simp; omega)
  have hS2 := rSHA256_eq (.ex 5 1) (n ++ [10, 1] ++ X) (by simp; omega)
  have hl2 := idH_len n X
  unfold idH rkeyAV at *
  rw [hX]
  have hnm : n.length ≤ most := by unfold most; omega
  have q1 : n.length + 2 ≤ most := by unfold most; omega
  have q2 : n.length + 2 + X.length ≤ most := by unfold most; omega
  have q3 : n.length + (X.length + 2) ≤ most := by unfold most; omega
  have q4 : n.length + (X.length + 1 + 1) ≤ most := by unfold most; omega
  obtain ⟨Y, hY⟩ : ∃ Y, sha256 (n ++ [10, 1] ++ X) = Y := ⟨_, rfl⟩
  rw [hY] at hS1 hS2 hl2 ⊢
  simp only [List.map_append, List.map_cons, List.map_nil, AV.u8, show ((UInt8.toNat 10 : Nat) : Int) = 10 from rfl, show ((UInt8.toNat 1 : Nat) : Int) = 1 from rfl] at hS1 hS2
  have hY4 : 4 ≤ Y.length := by omega
  refine EV_post rfl Tryz.func32 rfl (by simp [Tryz.ntmps32]) (by kernel_rfl) (by kernel_rfl) ?_
  simp (maxSteps := 4000000) [List.getElem?_cons_zero, List.getElem?_cons_succ, -List.append_assoc, hS, hS1, hS2, hnm, q1, q2, q3, q4, hY4, Tryz.results32]
theorem Number_eq (n s : List UInt8) (hn : n.length ≤ 2 ^ 20) (hs : s.length ≤ 2 ^ 20) (σ) : ev 23 [rkeyAV n s] σ = some (.int .u32 (idN (idH n (sha256 s))), σ) := by
  have hI := rID_eq n s hn hs
  have hl := idH_len n (sha256 s)
  obtain ⟨Y, hY⟩ : ∃ Y, idH n (sha256 s) = Y := ⟨_, rfl⟩
  rw [hY] at hI hl ⊢
  unfold rkeyAV at *
  obtain ⟨a0, a1, a2, a3, r, rfl⟩ := four Y (by omega)
  have hor := or_four a0 a1 a2 a3
  have hid : idN (a0 :: a1 :: a2 :: a3 :: r) = a0.toNat * 16777216 + a1.toNat * 65536 + a2.toNat * 256 + a3.toNat := rfl
  have hbt : IntKind.u32.bits = 32 := rfl
  have p8 : (2 : Int) ^ 8 = 256 := by decide
  have p16 : (2 : Int) ^ 16 = 65536 := by decide
  have p24 : (2 : Int) ^ 24 = 16777216 := by decide
  simp only [List.take_succ_cons, List.take_zero, List.map_cons, List.map_nil, AV.u8] at hI
  rw [hid]
  generalize hM : a0.toNat * 16777216 + a1.toNat * 65536 + a2.toNat * 256 + a3.toNat = M at *
  refine EV_post rfl Tryz.func23 rfl (by simp [Tryz.ntmps23]) (by kernel_rfl) (by kernel_rfl) ?_
  simp (maxSteps := 4000000) [List.getElem?_cons_zero, List.getElem?_cons_succ, hI, wrapU32_byte, hbt, p8, p16, p24, hor, Tryz.results23]
theorem Sig_eq (n s text : List UInt8) (hs : s.length ≤ 2 ^ 20) (ht : text.length ≤ 2 ^ 24) (σ) : ev 11 [rkeyAV n s, .str text] σ = some (.sl (.ex 5 1) ((sigH (sha256 s) text).map .u8), σ) := by
  have hS := rSHA256_eq .sh s (by omega)
  have hl := sha256_len s
  obtain ⟨X, hX⟩ : ∃ X, sha256 s = X := ⟨_, rfl⟩
  rw [hX] at hS hl ⊢
  have hS1 := rSHA256_eq .sh (2 :: (X ++ text)) (by simp; omega)
  have hS2 := rSHA256_eq (.ex 5 1) (2 :: (X ++ text)) (by simp; omega)
  simp only [List.map_cons, AV.u8, show ((UInt8.toNat 2 : Nat) : Int) = 2 from rfl] at hS1 hS2
  unfold sigH rkeyAV at *
  have hXl : X.length = 32 := hl
  have q1 : 1 + X.length ≤ most := by unfold most; omega
  have q2 : X.length + text.length + 1 ≤ most := by unfold most; omega
  have q3 : X.length + 1 + text.length ≤ most := by unfold most; omega
  have q4 : X.length + 1 ≤ most := by unfold most; omega
  obtain ⟨Y, hY⟩ : ∃ Y, sha256 (2 :: (X ++ text)) = Y := ⟨_, rfl⟩
  rw [hY] at hS1 hS2 ⊢
  simp only [List.map_append] at hS1 hS2
  refine EV_post rfl Tryz.func11 rfl (by simp [Tryz.ntmps11]) (by kernel_rfl) (by kernel_rfl) ?_
  simp (maxSteps := 4000000) [List.getElem?_cons_zero, List.getElem?_cons_succ, hS, hS1, hS2, q1, q2, q3, q4, Tryz.results11]
end Go.Proofs.Tryz.Ai
end
section
/- Searches by a function; the program's Sign. -/
namespace Go.Proofs.Tryz.Ai
open Go Go.AI Go.Proofs Go.B64
set_option maxHeartbeats 4000000
set_option maxRecDepth 4000
set_option linter.unusedVariables false

def keyF (k : List UInt8 × List UInt8) : AV := .agg [.str k.1, .str k.2]
theorem keyFx (k : List UInt8 × List UInt8) : keyF k = .agg [.str k.1, .str k.2] := rfl
/-- a signature's line: its name, its bytes -/
def sgF (m : List UInt8 × List UInt8) : AV := .agg [.str m.1, .int .u32 (idN m.2), .sl .sh ((m.2.map .u8).drop 4)]
theorem sgFx (m : List UInt8 × List UInt8) : sgF m = .agg [.str m.1, .int .u32 (idN m.2), .sl .sh ((m.2.map .u8).drop 4)] := rfl
/-- the first place of what a function takes -/
def fix {α : Type} (K : List α) (p : α → Bool) : Int := if K.any p then ((K.findIdx p : Nat) : Int) else -1
theorem fix_nn {α : Type} (K : List α) (p : α → Bool) : decide (0 ≤ fix K p) = K.any p := by
  unfold fix
  cases K.any p <;> simp
theorem fix_at {α : Type} {K : List α} {p : α → Bool} {i : Nat} {k : α} (hk : K[i]? = some k) (hn : (K.take i).any p = false) (hp : p k = true) : fix K p = (i : Int) := by
  have hi : i < K.length := (List.getElem?_eq_some_iff.1 hk).1
  have hki : K[i] = k := (List.getElem?_eq_some_iff.1 hk).2
  unfold fix
  rw [if_pos (List.any_eq_true.2 ⟨k, List.mem_of_getElem? hk, hp⟩)]
  congr 1
  rw [List.findIdx_eq hi]
  refine ⟨by rw [hki]; exact hp, fun j hj => ?_⟩
  cases hq : p K[j] with
  | false => rfl
  | true =>
    have : (K.take i).any p = true := List.any_eq_true.2 ⟨K[j], by rw [List.mem_take_iff_getElem]; exact ⟨j, by omega, rfl⟩, hq⟩
    rw [hn] at this; cases this
theorem IndexFuncK_eq (K : List (List UInt8 × List UInt8)) (hK : K.length ≤ 2 ^ 30) (g : FuncId) (hg : g < 100000) (cap : List AV) (hcap : args cap = some cap) (p : (List UInt8 × List UInt8) → Bool) (σ : List (List AV)) (h : ∀ k ∈ K, ev g (keyF k :: cap) σ = some (.bool (p k), σ)) :
    ev 51 [.sl .sh (K.map keyF), .fn g cap] σ = some (.int .i64 (fix K p), σ) := by
  refine EV_post rfl Tryz.func51 rfl (by simp [Tryz.ntmps51]) (by kernel_rfl) (by kernel_rfl) ?_
  simp (maxSteps := 4000000) [List.getElem?_cons_zero, List.getElem?_cons_succ, ]
  refine Post_loop (I := fun i : Nat => ⟨[(0, .sl .sh (K.map keyF)), (1, .fn g cap), (7, .int .i64 K.length), (8, .int .i64 i)], [], σ⟩) (Pr := fun i => i ≤ K.length ∧ (K.take i).any p = false) (μ := fun i => K.length - i) (a := 0) (by simp) (by simp) ?_
  rintro i ⟨hi, hn⟩
  have w1 : IntKind.i64.wrap ((i : Int) + 1) = (i : Int) + 1 := wrap64 (by omega)
  by_cases hc : i < K.length
  · obtain ⟨k, hk⟩ : ∃ k, K[i]? = some k := ⟨_, List.getElem?_eq_getElem hc⟩
    have hv := h k (List.mem_of_getElem? hk)
    have hin : (K.take (i + 1)).any p = p k := by rw [List.take_add_one, hk, List.any_append, hn]; simp
    have hfx := fix_at hk hn
    obtain ⟨k1, k2⟩ := k
    cases hp : p (k1, k2) with
    | true =>
      have hfx := hfx hp
      rw [hp] at hv
      simp only [keyFx] at hv
      simp (maxSteps := 4000000) [List.getElem?_cons_zero, List.getElem?_cons_succ, -getElem?_pos, hc, hk, hg, hcap, keyFx, hv, hfx, Tryz.results51]
    | false =>
      rw [hp] at hv hin
      simp only [keyFx] at hv
      simp (maxSteps := 4000000) [List.getElem?_cons_zero, List.getElem?_cons_succ, -getElem?_pos, hc, hk, hg, hcap, keyFx, hv, w1]
      exact ⟨i + 1, ⟨by omega, by simpa using hin⟩, by omega, by simp⟩
  · rw [List.take_of_length_le (by omega)] at hn
    have hfx : fix K p = -1 := by unfold fix; rw [hn]; simp
    simp (maxSteps := 4000000) [List.getElem?_cons_zero, List.getElem?_cons_succ, hc, hfx, Tryz.results51]
theorem ContainsFuncK_eq (K : List (List UInt8 × List UInt8)) (hK : K.length ≤ 2 ^ 30) (g : FuncId) (hg : g < 100000) (cap : List AV) (hcap : args cap = some cap) (hp : ∀ c ∈ cap, pers c = true) (p : (List UInt8 × List UInt8) → Bool) (σ : List (List AV)) (h : ∀ k ∈ K, ev g (keyF k :: cap) σ = some (.bool (p k), σ)) :
    ev 25 [.sl .sh (K.map keyF), .fn g cap] σ = some (.bool (K.any p), σ) := by
  have h1 := IndexFuncK_eq K hK g hg cap hcap p σ h
  have h2 := fix_nn K p
  refine EV_post rfl Tryz.func25 rfl (by simp [Tryz.ntmps25]) (by kernel_rfl) (by kernel_rfl) ?_
  simp (maxSteps := 4000000) [List.getElem?_cons_zero, List.getElem?_cons_succ, hcap, h1, h2, Tryz.results25]
theorem IndexFuncS_eq (K : List (List UInt8 × List UInt8)) (hK : K.length ≤ 2 ^ 30) (g : FuncId) (hg : g < 100000) (cap : List AV) (hcap : args cap = some cap) (p : (List UInt8 × List UInt8) → Bool) (σ : List (List AV)) (h : ∀ k ∈ K, ev g (sgF k :: cap) σ = some (.bool (p k), σ)) :
    ev 65 [.sl .sh (K.map sgF), .fn g cap] σ = some (.int .i64 (fix K p), σ) := by
  refine EV_post rfl Tryz.func65 rfl (by simp [Tryz.ntmps65]) (by kernel_rfl) (by kernel_rfl) ?_
  simp (maxSteps := 4000000) [List.getElem?_cons_zero, List.getElem?_cons_succ, ]
  refine Post_loop (I := fun i : Nat => ⟨[(0, .sl .sh (K.map sgF)), (1, .fn g cap), (7, .int .i64 K.length), (8, .int .i64 i)], [], σ⟩) (Pr := fun i => i ≤ K.length ∧ (K.take i).any p = false) (μ := fun i => K.length - i) (a := 0) (by simp) (by simp) ?_
  rintro i ⟨hi, hn⟩
  have w1 : IntKind.i64.wrap ((i : Int) + 1) = (i : Int) + 1 := wrap64 (by omega)
  by_cases hc : i < K.length
  · obtain ⟨k, hk⟩ : ∃ k, K[i]? = some k := ⟨_, List.getElem?_eq_getElem hc⟩
    have hv := h k (List.mem_of_getElem? hk)
    have hin : (K.take (i + 1)).any p = p k := by rw [List.take_add_one, hk, List.any_append, hn]; simp
    have hfx := fix_at hk hn
    obtain ⟨k1, k2⟩ := k
    cases hp : p (k1, k2) with
    | true =>
      have hfx := hfx hp
      rw [hp] at hv
      simp only [sgFx] at hv
      simp (maxSteps := 4000000) [List.getElem?_cons_zero, List.getElem?_cons_succ, -getElem?_pos, hc, hk, hg, hcap, sgFx, hv, hfx, Tryz.results65]
    | false =>
      rw [hp] at hv hin
      simp only [sgFx] at hv
      simp (maxSteps := 4000000) [List.getElem?_cons_zero, List.getElem?_cons_succ, -getElem?_pos, hc, hk, hg, hcap, sgFx, hv, w1]
      exact ⟨i + 1, ⟨by omega, by simpa using hin⟩, by omega, by simp⟩
  · rw [List.take_of_length_le (by omega)] at hn
    have hfx : fix K p = -1 := by unfold fix; rw [hn]; simp
    simp (maxSteps := 4000000) [List.getElem?_cons_zero, List.getElem?_cons_succ, hc, hfx, Tryz.results65]
theorem ContainsFuncS_eq (K : List (List UInt8 × List UInt8)) (hK : K.length ≤ 2 ^ 30) (g : FuncId) (hg : g < 100000) (cap : List AV) (hcap : args cap = some cap) (hp : ∀ c ∈ cap, pers c = true) (p : (List UInt8 × List UInt8) → Bool) (σ : List (List AV)) (h : ∀ k ∈ K, ev g (sgF k :: cap) σ = some (.bool (p k), σ)) :
    ev 42 [.sl .sh (K.map sgF), .fn g cap] σ = some (.bool (K.any p), σ) := by
  have h1 := IndexFuncS_eq K hK g hg cap hcap p σ h
  have h2 := fix_nn K p
  refine EV_post rfl Tryz.func42 rfl (by simp [Tryz.ntmps42]) (by kernel_rfl) (by kernel_rfl) ?_
  simp (maxSteps := 4000000) [List.getElem?_cons_zero, List.getElem?_cons_succ, hcap, h1, h2, Tryz.results42]
end Go.Proofs.Tryz.Ai
end
section
/- The program's Sign. -/
namespace Go.Proofs.Tryz.Ai
open Go Go.AI Go.Proofs Go.B64
set_option maxHeartbeats 4000000
set_option maxRecDepth 4000
set_option linter.unusedVariables false

def sameK (x k : List UInt8 × List UInt8) : Bool := x.1 == k.1 && idN (idH x.1 x.2) == idN (idH k.1 k.2)
theorem SignC_eq (x k : List UInt8 × List UInt8) (hx1 : x.1.length ≤ 2 ^ 20) (hx2 : x.2.length ≤ 2 ^ 20) (hk1 : k.1.length ≤ 2 ^ 20) (hk2 : k.2.length ≤ 2 ^ 20) (b : Nat) (σ : List (List AV)) (hb : σ[b]? = some [.str k.1, .str k.2]) :
    ev 26 [keyF x, .gp b 0 (some (36, 2))] σ = some (.bool (sameK x k), σ) := by
  have n1 := Name_eq x.1 x.2
  have n2 := Name_eq k.1 k.2
  have i1 := ID_eq x.1 x.2 hx1 hx2
  have i2 := ID_eq k.1 k.2 hk1 hk2
  unfold keyAV at n1 n2 i1 i2
  unfold keyF sameK
  generalize idN (idH x.1 x.2) = X at *
  generalize idN (idH k.1 k.2) = Y at *
  refine EV_post rfl Tryz.func26 rfl (by simp [Tryz.ntmps26]) (by kernel_rfl) (by kernel_rfl) ?_
  by_cases hc : x.1 = k.1
  · rw [hc] at n1 i1 ⊢
    by_cases hq : X = Y
    · subst hq
      simp (maxSteps := 4000000) [List.getElem?_cons_zero, List.getElem?_cons_succ, -getElem?_pos, hb, n1, n2, i1, i2, Tryz.results26]
    · have hq' : (X == Y) = false := by simpa using hq
      simp (maxSteps := 4000000) [List.getElem?_cons_zero, List.getElem?_cons_succ, -getElem?_pos, hb, n1, n2, i1, i2, hq, hq', Tryz.results26]
  · have hc' : (x.1 == k.1) = false := by simpa using hc
    simp (maxSteps := 4000000) [List.getElem?_cons_zero, List.getElem?_cons_succ, -getElem?_pos, hb, n1, n2, hc, hc', Tryz.results26]
def dashB : List UInt8 := [226, 128, 148, 32]
/-- a signature's line -/
def signLine (text : List UInt8) (k : List UInt8 × List UInt8) : List UInt8 := dashB ++ k.1 ++ [32] ++ b64 ((idH k.1 k.2).take 4 ++ sigH k.2 text) ++ [10]
theorem signLine_len (text : List UInt8) (k : List UInt8 × List UInt8) : (signLine text k).length = k.1.length + 54 := by
  unfold signLine
  simp only [List.length_append, b64_len, sigH_len, List.length_take, idH_len, dashB, List.length_cons, List.length_nil]
  omega
/-- is one of them there twice? -/
def dupK (K : List (List UInt8 × List UInt8)) : Bool := (List.range K.length).any fun i => (K.take i).any fun x => match K[i]? with | some k => sameK x k | none => false
theorem dupK_at {K : List (List UInt8 × List UInt8)} {i : Nat} {k : List UInt8 × List UInt8} (hk : K[i]? = some k) (h : (K.take i).any (fun x => sameK x k) = true) : dupK K = true := by
  unfold dupK
  refine List.any_eq_true.2 ⟨i, List.mem_range.2 (List.getElem?_eq_some_iff.1 hk).1, ?_⟩
  rw [hk]; exact h
theorem dupK_no {K : List (List UInt8 × List UInt8)} (h : ∀ i k, K[i]? = some k → (K.take i).any (fun x => sameK x k) = false) : dupK K = false := by
  unfold dupK
  rw [List.any_eq_false]
  intro i hi
  have hlt := List.mem_range.1 hi
  have := h i K[i] (List.getElem?_eq_getElem hlt)
  rw [List.getElem?_eq_getElem hlt]
  simpa using this
def sgn (text : List UInt8) (K : List (List UInt8 × List UInt8)) : List UInt8 × Int :=
  if textP text = false then ([], 15) else if 65536 < text.length then ([], 13) else if dupK K then ([], 20) else if K.length = 0 then ([], 20) else if 8 < K.length then ([], 14) else (text ++ [10] ++ K.flatMap (signLine text), 0)
theorem shr_u8 (N m : Nat) (c : UInt8) (h : N / 2 ^ m % 256 = c.toNat) : IntKind.u8.wrap ((N : Int).fdiv (2 ^ m)) = (c.toNat : Int) := by
  rw [fdivp, wrapu8_nat, h]; simp
theorem flat_len (text : List UInt8) (K : List (List UInt8 × List UInt8)) (h : ∀ k ∈ K, k.1.length ≤ 2 ^ 20) : (K.flatMap (signLine text)).length ≤ K.length * (2 ^ 20 + 54) := by
  induction K with
  | nil => simp
  | cons k r ih =>
    have h1 := h k (by simp)
    have h2 := ih fun x hx => h x (by simp [hx])
    rw [List.flatMap_cons, List.length_append, signLine_len, List.length_cons]
    omega
theorem NoteSign_eq (text : List UInt8) (K : List (List UInt8 × List UInt8)) (ht : text.length ≤ 2 ^ 24) (hK : K.length ≤ 2 ^ 10) (hk : ∀ k ∈ K, k.1.length ≤ 2 ^ 20 ∧ k.2.length ≤ 2 ^ 20) (σ : List (List AV)) :
    ev 7 [.str text, .sl .sh (K.map keyF)] σ = some (.tup [.str (sgn text K).1, .int .i64 (sgn text K).2], σ) := by
  have hV := validText_eq text (by omega)
  refine EV_post rfl Tryz.func7 rfl (by simp [Tryz.ntmps7]) (by kernel_rfl) (by kernel_rfl) ?_
  by_cases h1 : textP text = false
  · have hR : sgn text K = ([], 15) := by unfold sgn; rw [if_pos h1]
    simp (maxSteps := 4000000) [List.getElem?_cons_zero, List.getElem?_cons_succ, hV, h1, hR, Tryz.results7]
  · have h1' : textP text = true := by simpa using h1
    by_cases h2 : 65536 < text.length
    · have hR : sgn text K = ([], 13) := by unfold sgn; rw [if_neg h1, if_pos h2]
      simp (maxSteps := 4000000) [List.getElem?_cons_zero, List.getElem?_cons_succ, hV, h1', h2, hR, Tryz.results7]
    · simp (maxSteps := 4000000) [List.getElem?_cons_zero, List.getElem?_cons_succ, hV, h1', h2]
      refine Post_loop (I := fun p : Nat × List (List AV) => ⟨[(0, .str text), (1, .sl .sh (K.map keyF)), (19, .sl .sh (K.map keyF)), (20, .int .i64 K.length), (21, .int .i64 p.1)], [], p.2⟩)
        (Pr := fun p => p.1 ≤ K.length ∧ (∀ i k, i < p.1 → K[i]? = some k → (K.take i).any (fun x => sameK x k) = false) ∧ p.2.take σ.length = σ ∧ σ.length ≤ p.2.length) (μ := fun p => K.length - p.1) (a := (0, σ)) (by simp) (by simp) ?_
      rintro ⟨i, S⟩ ⟨hi, hd, hS, hSl⟩
      simp only at hi hd hS hSl ⊢
      have hlowS : ∀ j : List (List AV), lowS σ (S ++ j) := fun j b hb => .inl (by
        have := congrArg (fun l : List (List AV) => l[b]?) hS
        simp only [List.getElem?_take, if_pos hb] at this
        rw [List.getElem?_append_left (by omega)]
        exact this)
      have htkS : ∀ j : List (List AV), (S ++ j).take σ.length = σ := fun j => by rw [List.take_append_of_le_length hSl]; exact hS
      have w1 : IntKind.i64.wrap ((i : Int) + 1) = (i : Int) + 1 := wrap64 (by omega)
      by_cases hc : i < K.length
      · obtain ⟨k, hx⟩ : ∃ k, K[i]? = some k := ⟨_, List.getElem?_eq_getElem hc⟩
        have hkk := hk k (List.mem_of_getElem? hx)
        have hC := ContainsFuncK_eq (K.take i) (by simp; omega) 26 (by decide) [.gp S.length 0 (some (36, 2))] (by rfl) (by simp [AI.pers]) (fun x => sameK x k) (S ++ [[.str k.1, .str k.2]])
          (fun x hx' => SignC_eq x k (hk x (List.mem_of_mem_take hx')).1 (hk x (List.mem_of_mem_take hx')).2 hkk.1 hkk.2 S.length _ (by simp))
        have htk : List.take i (K.map keyF) = (K.take i).map keyF := by rw [List.map_take]
        rw [← htk] at hC
        have hil : i ≤ K.length := by omega
        have hall : allCells 2 (K.map keyF) := fun y hy => by obtain ⟨z, _, rfl⟩ := List.mem_map.1 hy; exact ⟨rfl, fun c hc => by simp [keyF, AV.cells] at hc; rcases hc with rfl | rfl <;> rfl⟩
        obtain ⟨k1, k2⟩ := k
        cases hany : (K.take i).any (fun x => sameK x (k1, k2)) with
        | true =>
          have hR : sgn text K = ([], 20) := by unfold sgn; rw [if_neg h1, if_neg h2, if_pos (dupK_at hx hany)]
          rw [hany] at hC
          simp (maxSteps := 4000000) [List.getElem?_cons_zero, List.getElem?_cons_succ, -getElem?_pos, hc, hx, keyFx, hC, hil, hall, hR, need_of (hlowS _), htkS, Tryz.results7]
        | false =>
          rw [hany] at hC
          simp (maxSteps := 4000000) [List.getElem?_cons_zero, List.getElem?_cons_succ, -getElem?_pos, -Prod.forall, hc, hx, keyFx, hC, hil, hall, w1]
          refine ⟨i + 1, _, ⟨by omega, fun i' k' hi' hk' => ?_, htkS _, by simp; omega⟩, by omega, by simp, rfl⟩
          rcases (by omega : i' < i ∨ i' = i) with h | rfl
          · simpa [-Prod.forall] using hd i' k' h hk'
          · rw [hx] at hk'; injection hk' with hk'; subst hk'; simpa [-Prod.forall] using hany
      · have hdup : dupK K = false := dupK_no fun i' k' hk' => hd i' k' (by have := (List.getElem?_eq_some_iff.1 hk').1; omega) hk'
        by_cases h3 : K.length = 0
        · have hR : sgn text K = ([], 20) := by unfold sgn; rw [if_neg h1, if_neg h2, hdup, if_neg (by simp), if_pos h3]
          have h0 := hlowS []
          have h00 := htkS []
          rw [List.append_nil] at h0 h00
          simp (maxSteps := 4000000) [List.getElem?_cons_zero, List.getElem?_cons_succ, hc, h3, hR, need_of h0, h00, Tryz.results7]
        · by_cases h4 : 8 < K.length
          · have hR : sgn text K = ([], 14) := by unfold sgn; rw [if_neg h1, if_neg h2, hdup, if_neg (by simp), if_neg h3, if_pos h4]
            have h0 := hlowS []
            have h00 := htkS []
            rw [List.append_nil] at h0 h00
            simp (maxSteps := 4000000) [List.getElem?_cons_zero, List.getElem?_cons_succ, hc, h3, h4, hR, need_of h0, h00, Tryz.results7]
          · have hR : sgn text K = (text ++ [10] ++ K.flatMap (signLine text), 0) := by unfold sgn; rw [if_neg h1, if_neg h2, hdup, if_neg (by simp), if_neg h3, if_neg h4]
            have hW0 := WriteString_eq S [] none (text ++ [10]) (by simp; unfold most; omega)
            have m1 : text.length + 1 ≤ most := by unfold most; omega
            simp only [bc, SB] at hW0
            simp (maxSteps := 4000000) [List.getElem?_cons_zero, List.getElem?_cons_succ, -Prod.forall, hc, h3, h4, hW0, m1]
            have hfl := flat_len text K fun k hx => (hk k hx).1
            have hKb : K.length * (2 ^ 20 + 54) ≤ 2 ^ 10 * (2 ^ 20 + 54) := Nat.mul_le_mul_right _ hK
            refine Post_loop (I := fun p : Nat × List UInt8 => ⟨[(0, .str text), (8, .gp S.length 0 (some (SB, 2))), (41, .sl .sh (K.map keyF)), (42, .int .i64 K.length), (43, .int .i64 p.1)], [], S ++ [bc S.length (some p.2)]⟩)
              (Pr := fun p => p.1 ≤ K.length ∧ p.2 = text ++ [10] ++ (K.take p.1).flatMap (signLine text)) (μ := fun p => K.length - p.1) (a := (0, text ++ [10])) (by simp [bc, SB, U8]) (by simp) ?_
            rintro ⟨i, q⟩ ⟨hi, hq⟩
            simp only at hi hq ⊢
            have w1 : IntKind.i64.wrap ((i : Int) + 1) = (i : Int) + 1 := wrap64 (by omega)
            by_cases hc : i < K.length
            · obtain ⟨k, hx⟩ : ∃ k, K[i]? = some k := ⟨_, List.getElem?_eq_getElem hc⟩
              have hkk := hk k (List.mem_of_getElem? hx)
              have hq' : text ++ [10] ++ (K.take (i + 1)).flatMap (signLine text) = q ++ signLine text k := by
                rw [hq, List.take_add_one, hx, List.flatMap_append]; simp
              have hql : (q ++ signLine text k).length ≤ 2 ^ 24 + 1 + 2 ^ 10 * (2 ^ 20 + 54) := by
                rw [← hq']
                have := flat_len text (K.take (i + 1)) fun k hx => (hk k (List.mem_of_mem_take hx)).1
                have h5 : (K.take (i + 1)).length * (2 ^ 20 + 54) ≤ 2 ^ 10 * (2 ^ 20 + 54) := Nat.mul_le_mul_right _ (by simp; omega)
                simp only [List.length_append, List.length_cons, List.length_nil]
                omega
              obtain ⟨k1, k2⟩ := k
              have hN := Name_eq k1 k2
              have hI := ID_eq k1 k2 hkk.1 hkk.2
              have hSg := Sign_eq k1 k2 text hkk.2 ht
              have hsl := sigH_len k2 text
              have hsign : signLine text (k1, k2) = dashB ++ k1 ++ [32] ++ b64 ((idH k1 k2).take 4 ++ sigH k2 text) ++ [10] := rfl
              obtain ⟨SG, hSG⟩ : ∃ s, sigH k2 text = s := ⟨_, rfl⟩
              obtain ⟨HH, hHH⟩ : ∃ s, idH k1 k2 = s := ⟨_, rfl⟩
              have hHl := idH_len k1 k2
              rw [hHH] at hI hHl hsign
              rw [hSG] at hSg hsl hsign
              obtain ⟨b0, b1, b2, b3, r, rfl⟩ := four HH (by omega)
              have l0 := b0.toNat_lt; have l1 := b1.toNat_lt; have l2 := b2.toNat_lt; have l3 := b3.toNat_lt
              have hid : idN (b0 :: b1 :: b2 :: b3 :: r) = b0.toNat * 16777216 + b1.toNat * 65536 + b2.toNat * 256 + b3.toNat := rfl
              rw [hid] at hI
              obtain ⟨N, hNN⟩ : ∃ N, b0.toNat * 16777216 + b1.toNat * 65536 + b2.toNat * 256 + b3.toNat = N := ⟨_, rfl⟩
              rw [hNN] at hI
              have u0 := shr_u8 N 24 b0 (by omega)
              have u1 := shr_u8 N 16 b1 (by omega)
              have u2 := shr_u8 N 8 b2 (by omega)
              have u3 : IntKind.u8.wrap (N : Int) = (b3.toNat : Int) := by rw [wrapu8_nat, show N % 256 = b3.toNat by omega]; simp
              rw [show (2 : Int) ^ 24 = 16777216 by decide] at u0
              rw [show (2 : Int) ^ 16 = 65536 by decide] at u1
              rw [show (2 : Int) ^ 8 = 256 by decide] at u2
              have hbt : IntKind.u32.bits = 32 := rfl
              have hB := Base64_eq (b0 :: b1 :: b2 :: b3 :: SG) (by simp; omega)
              have hBl := b64_len (b0 :: b1 :: b2 :: b3 :: SG)
              simp only [List.length_cons, hsl] at hBl
              have htk4 : (b0 :: b1 :: b2 :: b3 :: r).take 4 ++ SG = b0 :: b1 :: b2 :: b3 :: SG := rfl
              rw [htk4] at hsign
              obtain ⟨BB, hBB⟩ : ∃ B, b64 (b0 :: b1 :: b2 :: b3 :: SG) = B := ⟨_, rfl⟩
              rw [hBB] at hB hBl hsign
              simp only [List.map_cons, AV.u8] at hB
              have hW := WriteString_eq S [] (some q) (signLine text (k1, k2)) (by
                rw [List.length_append] at hql
                simp only [txt_some]; unfold most; omega)
              obtain ⟨M, hM⟩ : ∃ M, signLine text (k1, k2) = M := ⟨_, rfl⟩
              rw [hM] at hW hq' hsign hql
              have hMM : [226, 128, 148, 32] ++ k1 ++ [32] ++ BB ++ [10] = M := hsign.symm
              have hk1l : k1.length ≤ 2 ^ 20 := hkk.1
              unfold keyAV at hN hI hSg
              simp only [bc, txt_some, SB] at hW ⊢
              have c1 : k1.length + 1 + 1 + 1 + 1 ≤ most := by unfold most; omega
              have hMM' : 226 :: 128 :: 148 :: 32 :: (k1 ++ [32] ++ BB ++ [10]) = M := hMM
              simp (maxSteps := 4000000) [List.getElem?_cons_zero, List.getElem?_cons_succ, -getElem?_pos, -List.append_assoc, hc, hx, keyFx, hN, hI, hSg, u0, u1, u2, u3, hbt, hB]
              repeat (rw [need_of]; rotate_left; (· (try unfold most); omega); simp (maxSteps := 4000000) [List.getElem?_cons_zero, List.getElem?_cons_succ, -getElem?_pos, -List.append_assoc, hc, hx, keyFx, hN, hI, hSg, u0, u1, u2, u3, hbt, hB])
              simp (maxSteps := 4000000) [List.getElem?_cons_zero, List.getElem?_cons_succ, -List.append_assoc, hMM', hW, w1]
              exact ⟨i + 1, q ++ M, ⟨by omega, hq'.symm⟩, by omega, by simp, by simp⟩
            · have hiK : i = K.length := by omega
              rw [hiK, List.take_length] at hq
              have hs := String_b S.length (S ++ [bc S.length (some q)]) (some q) (by simp)
              simp only [txt_some] at hs
              have hset : (S ++ [bc S.length (some q)]).set S.length (bs S.length (some q)) = S ++ [bs S.length (some q)] := by simp
              rw [hset] at hs
              rw [← hq] at hR
              simp (maxSteps := 4000000) [List.getElem?_cons_zero, List.getElem?_cons_succ, hc, hs, hR, need_of (hlowS _), htkS, Tryz.results7]
end Go.Proofs.Tryz.Ai
end
section
/- A signature's line: both sides. -/
namespace Go.Proofs.Tryz.Ai
open Go Go.AI Go.Proofs Go.B64
set_option maxHeartbeats 4000000
set_option maxRecDepth 4000
set_option linter.unusedVariables false

theorem index_ix (c : UInt8) (l : List UInt8) : Lib.index l [c] = ixI c l := by
  induction l with
  | nil => rfl
  | cons b r ih =>
    unfold Lib.index ixI
    unfold ixI at ih
    rw [ih]
    by_cases h : b = c
    · subst h; simp [List.isPrefixOf, ix]
    · have h' : (c == b) = false := by simpa using fun e => h e.symm
      simp only [List.isPrefixOf, h', Bool.false_and, Bool.false_eq_true, if_false, ix, h, if_false]
      cases ix c r with
      | none => rfl
      | some n =>
        simp only [Option.map_some]
        rw [if_neg (by simp)]
        omega
theorem cut_cutB (c : UInt8) (l : List UInt8) : Lib.cut l [c] = cutB c l := by
  unfold Lib.cut cutB
  rw [index_ix]
  unfold ixI
  cases ix c l with
  | none => rfl
  | some n => simp
theorem b64_not (c : UInt8) (h : plc c = -1) (h2 : c ≠ 61) (l : List UInt8) : c ∉ b64 l := by
  intro hc
  rw [b64_vals] at hc
  rcases List.mem_append.1 hc with hc | hc
  · obtain ⟨v, h1, h3⟩ := List.mem_map.1 hc
    rw [← h3, lt_plc v (vals_lt l v h1)] at h
    omega
  · unfold pad64 at hc
    split at hc
    · simp at hc; exact h2 hc
    · split at hc
      · simp at hc; exact h2 hc
      · cases hc
/-- a signature's line: its name, its bytes -/
noncomputable def markP (s : List UInt8) : Option (List UInt8 × List UInt8) :=
  if dashB.isPrefixOf s then (match ix 32 (s.drop 4) with
    | some n => if nameP ((s.drop 4).take n) then (match from64 ((s.drop 4).drop (n + 1)) with
      | some b => if 5 ≤ b.length then some ((s.drop 4).take n, b) else none
      | none => none) else none
    | none => none) else none
theorem dash4 : dashB.length = 4 := rfl
/-- a text in letters has no blank -/
theorem from64_blank {t b : List UInt8} (h : from64 t = some b) : (32 : UInt8) ∉ t := by
  rw [← from64_some h]
  exact b64_not 32 (by decide +kernel) (by decide) b
theorem markP_eq {s nm tx : List UInt8} {n : Nat} (hd : dashB.isPrefixOf s = true) (hi : ix 32 (s.drop 4) = some n) (h1 : (s.drop 4).take n = nm) (h2 : (s.drop 4).drop (n + 1) = tx) : markP s = if nameP nm then (match from64 tx with
      | some b => if 5 ≤ b.length then some (nm, b) else none
      | none => none) else none := by
  unfold markP
  rw [if_pos hd, hi]
  simp only [h1, h2]
def sgZ : AV := .agg [.str [], .int .u32 0, .sl .sh []]
noncomputable def lineAV (s : List UInt8) : AV := match markP s with
  | some m => .tup [sgF m, .bool true]
  | none => .tup [sgZ, .bool false]
theorem line_eq (s : List UInt8) (hs : s.length ≤ 2 ^ 29) (σ) : ev 64 [.str s] σ = some (lineAV s, σ) := by
  have hCP : ∀ σ, ev 75 [.str s, .str [226, 128, 148, 32]] σ = some (.tup [.str (Lib.trimPrefix s dashB), .bool (dashB.isPrefixOf s)], σ) := fun σ => by rw [ev_CutPrefix]; rfl
  obtain ⟨R, hR⟩ : ∃ R, Lib.trimPrefix s dashB = R := ⟨_, rfl⟩
  have hRl : R.length ≤ s.length := by rw [← hR]; unfold Lib.trimPrefix; split <;> simp
  rw [hR] at hCP
  have hCut : ∀ σ, ev 76 [.str R, .str [32]] σ = some (.tup [.str (cutB 32 R).1, .str (cutB 32 R).2.1, .bool (cutB 32 R).2.2], σ) := fun σ => by
    rw [ev_Cut]
    simp only [cutT]
    rw [need_of (by omega), cut_cutB]
  have hcl := cutB_le 32 R
  obtain ⟨c, hc⟩ : ∃ c, cutB 32 R = c := ⟨_, rfl⟩
  rw [hc] at hCut hcl
  obtain ⟨nm, tx, fd⟩ := c
  simp only at hCut hcl
  have hF := FromBase64_eq tx (by omega)
  have hV := validName_eq nm
  have hfl := fromR_len tx
  obtain ⟨r, hr⟩ : ∃ r, fromR tx = r := ⟨_, rfl⟩
  rw [hr] at hF hfl
  obtain ⟨B, e⟩ := r
  simp only at hF hfl
  -- what is refused
  have hno : (dashB.isPrefixOf s = false ∨ fd = false ∨ nameP nm = false ∨ ¬ e = 0 ∨ B.length ≤ 4) → lineAV s = .tup [sgZ, .bool false] := by
    intro h
    have : markP s = none := by
      by_cases hd : dashB.isPrefixOf s = true
      · have hR2 : s.drop 4 = R := by rw [← hR]; unfold Lib.trimPrefix Lib.hasPrefix; rw [if_pos hd]; rfl
        cases hi : ix 32 R with
        | none => unfold markP; rw [if_pos hd, hR2, hi]
        | some n =>
          unfold cutB at hc
          rw [hi] at hc
          simp only [Prod.mk.injEq] at hc
          rw [markP_eq (nm := nm) (tx := tx) hd (hR2 ▸ hi) (hR2 ▸ hc.1) (hR2 ▸ hc.2.1)]
          rcases h with h | h | h | h | h
          · rw [hd] at h; cases h
          · rw [← hc.2.2] at h; cases h
          · rw [h]; rfl
          · split
            · cases hf : from64 tx with
              | none => rfl
              | some b => rw [fromR_some hf] at hr; injection hr with h1 h2; exact absurd h2.symm h
            · rfl
          · split
            · cases hf : from64 tx with
              | none => rfl
              | some b =>
                rw [fromR_some hf] at hr
                injection hr with h1 h2
                rw [h1]
                simp only
                rw [if_neg (by omega)]
            · rfl
      · unfold markP; rw [if_neg hd]
    unfold lineAV; rw [this]
  refine EV_post rfl Tryz.func64 rfl (by simp [Tryz.ntmps64]) (by kernel_rfl) (by kernel_rfl) ?_
  cases hd : dashB.isPrefixOf s with
  | false =>
    rw [hd] at hCP hno
    have hL := hno (.inl rfl)
    simp (maxSteps := 4000000) [List.getElem?_cons_zero, List.getElem?_cons_succ, hCP, hCut, hF, hV, hL, sgZ, Tryz.results64]
  | true =>
    rw [hd] at hCP hno
    cases fd with
    | false =>
      have hL := hno (.inr (.inl rfl))
      simp (maxSteps := 4000000) [List.getElem?_cons_zero, List.getElem?_cons_succ, hCP, hCut, hF, hV, hL, sgZ, Tryz.results64]
    | true =>
      cases hn : nameP nm with
      | false =>
        rw [hn] at hV
        have hL := hno (.inr (.inr (.inl hn)))
        simp (maxSteps := 4000000) [List.getElem?_cons_zero, List.getElem?_cons_succ, hCP, hCut, hF, hV, hL, sgZ, Tryz.results64]
      | true =>
        rw [hn] at hV
        by_cases he : e = 0
        · by_cases hB : B.length ≤ 4
          · have hL := hno (.inr (.inr (.inr (.inr hB))))
            subst he
            simp (maxSteps := 4000000) [List.getElem?_cons_zero, List.getElem?_cons_succ, hCP, hCut, hF, hV, hB, hL, sgZ, Tryz.results64]
          · subst he
            have hI := id_eq B (by omega)
            have hL : lineAV s = .tup [sgF (nm, B), .bool true] := by
              have hR2 : s.drop 4 = R := by rw [← hR]; unfold Lib.trimPrefix Lib.hasPrefix; rw [if_pos hd]; rfl
              cases hi : ix 32 R with
              | none => unfold cutB at hc; rw [hi] at hc; simp at hc
              | some n =>
                unfold cutB at hc
                rw [hi] at hc
                simp only [Prod.mk.injEq] at hc
                have hm := markP_eq (nm := nm) (tx := tx) hd (hR2 ▸ hi) (hR2 ▸ hc.1) (hR2 ▸ hc.2.1)
                rw [if_pos hn] at hm
                cases hf : from64 tx with
                | none => rw [fromR_none hf] at hr; injection hr with h1 h2; cases h2
                | some b =>
                  rw [fromR_some hf] at hr
                  injection hr with h1 h2
                  subst h1
                  rw [hf] at hm
                  simp only at hm
                  rw [if_pos (by omega)] at hm
                  unfold lineAV; rw [hm]
            have hB4 : 4 ≤ B.length := by omega
            rw [hL, sgFx]
            simp (maxSteps := 4000000) [List.getElem?_cons_zero, List.getElem?_cons_succ, hCP, hCut, hF, hV, hB, hI, hB4, Tryz.results64]
        · have hL := hno (.inr (.inr (.inr (.inl he))))
          simp (maxSteps := 4000000) [List.getElem?_cons_zero, List.getElem?_cons_succ, hCP, hCut, hF, hV, he, hL, sgZ, Tryz.results64]
/-- what the document's side reads of a line -/
noncomputable def rmarkV (s : List UInt8) : List UInt8 × List UInt8 :=
  if dashB.isPrefixOf s then (match splitB 32 (s.drop 4) with
    | [nm, tx] => if nameP nm then (nm, (fromR tx).1) else ([], [])
    | _ => ([], [])) else ([], [])
theorem split2 (c : UInt8) (l : List UInt8) : (∃ a b, splitB c l = [a, b]) ∨ (splitB c l).length ≠ 2 := by
  match h : splitB c l with
  | [] => right; simp
  | [a] => right; simp
  | [a, b] => left; exact ⟨a, b, rfl⟩
  | a :: b :: d :: r => right; simp
theorem markP_split (s : List UInt8) (hd : dashB.isPrefixOf s = true) : markP s = match splitB 32 (s.drop 4) with
    | [nm, tx] => if nameP nm then (match from64 tx with
      | some b => if 5 ≤ b.length then some (nm, b) else none
      | none => none) else none
    | _ => none := by
  unfold markP
  rw [if_pos hd]
  generalize s.drop 4 = R
  cases hi : ix 32 R with
  | none => rw [splitB_none hi]
  | some n =>
    rw [splitB_ix hi]
    cases hj : ix 32 (R.drop (n + 1)) with
    | none => rw [splitB_none hj]
    | some m =>
      rw [splitB_ix hj]
      have hin : (32 : UInt8) ∈ R.drop (n + 1) := by
        have := (ix_some hj).2.1
        exact List.mem_of_getElem? this
      have hf : from64 (R.drop (n + 1)) = none := by
        cases hf : from64 (R.drop (n + 1)) with
        | none => rfl
        | some b => exact absurd hin (from64_blank hf)
      simp only [hf]
      have hne := splitB_ne 32 ((R.drop (n + 1)).drop (m + 1))
      cases hs : splitB 32 ((R.drop (n + 1)).drop (m + 1)) with
      | nil => exact absurd hs hne
      | cons a r => simp
theorem rmarkV_some {s : List UInt8} {m : List UInt8 × List UInt8} (h : markP s = some m) : rmarkV s = m := by
  cases hd : dashB.isPrefixOf s with
  | false => unfold markP at h; rw [hd] at h; cases h
  | true =>
    rw [markP_split s hd] at h
    unfold rmarkV
    rw [if_pos hd]
    split at h
    · rename_i nm tx hq
      split at h
      · rename_i hn
        rw [if_pos hn]
        cases hf : from64 tx with
        | none => rw [hf] at h; cases h
        | some b =>
          rw [hf] at h
          simp only at h
          split at h
          · injection h with h; rw [fromR_some hf, ← h]
          · cases h
      · cases h
    · cases h
end Go.Proofs.Tryz.Ai
end
section
/- A note is cut: the program's side. -/
namespace Go.Proofs.Tryz.Ai
open Go Go.AI Go.Proofs Go.B64
set_option maxHeartbeats 4000000
set_option maxRecDepth 4000
set_option linter.unusedVariables false

theorem splitK_one (c : UInt8) : ∀ (k : Nat) (s : List UInt8), s.count c = k → Lib.splitK [c] 0 k s = splitB c s := by
  intro k
  induction k with
  | zero => intro s h; rw [splitB_not (List.count_eq_zero.1 h)]; rfl
  | succ k ih =>
    intro s h
    cases hi : ix c s with
    | none => rw [List.count_eq_zero.2 (ix_none.1 hi)] at h; omega
    | some n =>
      obtain ⟨h1, h2, h3, h4⟩ := ix_some hi
      have hidx : Lib.index s [c] = (n : Int) := by rw [index_ix]; unfold ixI; rw [hi]
      unfold Lib.splitK
      rw [hidx, splitB_ix hi, if_neg (by simp), Int.toNat_natCast]
      congr 1
      refine ih _ ?_
      have := congrArg (List.count c) h4
      rw [List.count_append, List.count_eq_zero.2 h3, List.count_cons_self, h] at this
      show List.count c (s.drop (n + 1)) = k
      omega
theorem split_one (c : UInt8) (s : List UInt8) : Lib.split s [c] = splitB c s := by
  unfold Lib.split
  rw [Lib.count_one]
  exact splitK_one c _ s rfl
theorem Split_eq (c : UInt8) (s : List UInt8) (hs : s.length ≤ 2 ^ 30) (σ) : ev 63 [.str s, .str [c]] σ = some (.sl (.ex 9 1) ((splitB c s).map .str), σ) := by
  rw [ev_Split]
  simp only [splitT]
  rw [need_of ⟨by omega, by simp⟩, split_one]
theorem markP_ne : ∀ x m, markP x = some m → x ≠ [] := by
  intro x m h e
  subst e
  unfold markP at h
  rw [if_neg (by decide)] at h
  cases h
theorem textP_end : ∀ t, textP t = true → [10] <:+ t := by
  intro t h
  unfold textP at h
  simp only [Bool.and_eq_true, decide_eq_true_eq] at h
  exact h.1
noncomputable def cutP (s : List UInt8) : Option (List UInt8 × List (List UInt8 × List UInt8)) := cutN markP textP s
noncomputable def cutAV (s : List UInt8) : AV := match cutP s with
  | some r => .tup [.str r.1, .sl .sh (r.2.map sgF), .bool true]
  | none => .tup [.str [], .sl .sh [], .bool false]
theorem cut_eq (s : List UInt8) (hs : s.length ≤ 2 ^ 29) (σ) : ev 41 [.str s] σ = some (cutAV s, σ) := by
  have hCS : ∀ σ, ev 61 [.str s, .str [10]] σ = some (.tup [.str (Lib.trimSuffix s [10]), .bool (Lib.hasSuffix s [10])], σ) := fun σ => by
    rw [ev_CutSuffix]
    simp only [cutSuffixT]
    rw [need_of (by omega)]
  have hsf : Lib.hasSuffix s [10] = decide ([10] <:+ s) := by
    unfold Lib.hasSuffix; rw [Bool.eq_iff_iff, List.isSuffixOf_iff_suffix, decide_eq_true_iff]
  rw [hsf] at hCS
  refine EV_post rfl Tryz.func41 rfl (by simp [Tryz.ntmps41]) (by kernel_rfl) (by kernel_rfl) ?_
  by_cases hc : [10] <:+ s
  · have htr : Lib.trimSuffix s [10] = s.take (s.length - 1) := by unfold Lib.trimSuffix; rw [hsf, decide_eq_true hc, if_pos rfl]; rfl
    rw [htr, decide_eq_true hc] at hCS
    have hP1 := fun h => cutN_neg markP textP (s := s) h
    have hP2 := fun i h h' => cutN_bad markP textP (s := s) (i := i) h h'
    have hP3 := fun i h h' => cutN_line markP textP (s := s) (i := i) h h'
    have hP4 := fun i ms h h' h'' => cutN_ok markP textP (s := s) (i := i) (ms := ms) hc h h' h''
    have hbl : (s.take (s.length - 1)).length ≤ s.length := by simp
    obtain ⟨body, hb⟩ : ∃ b, s.take (s.length - 1) = b := ⟨_, rfl⟩
    rw [hb] at hCS hP1 hP2 hP3 hP4 hbl
    have hLI : ∀ σ, ev 62 [.str body, .str [10, 10]] σ = some (.int .i64 (Lib.lastIndex body [10, 10]), σ) := fun σ => by
      rw [ev_LastIndex]
      simp only [lastIndexT]
      rw [need_of (by omega)]
    rcases lastIndex_spec body [10, 10] (by simp) with ⟨h1, _⟩ | ⟨i, h1, h2, _⟩
    · have hP' : cutP s = none := hP1 (by rw [h1]; decide)
      rw [h1] at hLI
      have hA : cutAV s = .tup [.str [], .sl .sh [], .bool false] := by unfold cutAV; rw [hP']
      simp (maxSteps := 4000000) [List.getElem?_cons_zero, List.getElem?_cons_succ, hCS, hLI, hA, Tryz.results41]
    · have hP2 := hP2 i h1
      have hP3 := hP3 i h1
      have hP4 := fun ms => hP4 i ms h1
      rw [h1] at hLI
      have hil : i + 2 ≤ body.length := by
        have := (List.isPrefixOf_iff_prefix.1 h2).length_le
        simp at this; omega
      have w1 : IntKind.i64.wrap ((i : Int) + 1) = ((i + 1 : Nat) : Int) := by rw [wrap64 (by omega)]; omega
      have w2 : IntKind.i64.wrap ((i : Int) + 2) = ((i + 2 : Nat) : Int) := by rw [wrap64 (by omega)]; omega
      obtain ⟨i1, hi1⟩ : ∃ k, i + 1 = k := ⟨_, rfl⟩
      obtain ⟨i2, hi2⟩ : ∃ k, i + 2 = k := ⟨_, rfl⟩
      rw [hi1] at w1 hP2 hP4
      rw [hi2] at w2 hP3 hP4
      have q1 : i1 ≤ body.length := by omega
      have q2 : i2 ≤ body.length := by omega
      have n0 : ¬ (i : Int) < 0 := by omega
      have hV := validText_eq (body.take i1) (by simp; omega)
      obtain ⟨t, ht⟩ : ∃ t, body.take i1 = t := ⟨_, rfl⟩
      rw [ht] at hV hP2 hP4
      have hSp := Split_eq 10 (body.drop i2) (by simp; omega)
      have hm1 := fun x (hx : x ∈ splitB 10 (body.drop i2)) => splitB_le hx
      have hm2 := splitB_many 10 (body.drop i2)
      have hdl : (body.drop i2).length ≤ body.length := by simp
      obtain ⟨D, hD⟩ : ∃ d, body.drop i2 = d := ⟨_, rfl⟩
      rw [hD] at hSp hm1 hm2 hP3 hP4 hdl
      cases htp : textP t with
      | false =>
        rw [htp] at hV
        have hP' : cutP s = none := hP2 htp
        have hA : cutAV s = .tup [.str [], .sl .sh [], .bool false] := by unfold cutAV; rw [hP']
        simp (maxSteps := 4000000) [List.getElem?_cons_zero, List.getElem?_cons_succ, hCS, hLI, n0, w1, q1, ht, hV, hA, Tryz.results41]
      | true =>
        rw [htp] at hV
        obtain ⟨L, hL⟩ : ∃ L, splitB 10 D = L := ⟨_, rfl⟩
        rw [hL] at hSp hm1 hm2 hP3 hP4
        simp (maxSteps := 4000000) [List.getElem?_cons_zero, List.getElem?_cons_succ, hCS, hLI, n0, w1, w2, q1, q2, ht, hV, hD, hSp]
        refine Post_loop (I := fun p : Nat × List (List UInt8 × List UInt8) => ⟨[(5, .str body), (7, .int .i64 i), (8, .sl (.ex 87 3) (p.2.map sgF)), (36, .sl (.ex 9 1) (L.map .str)), (37, .int .i64 L.length), (38, .int .i64 p.1)], [], σ⟩)
          (Pr := fun p => p.1 ≤ L.length ∧ (L.take p.1).map markP = p.2.map some) (μ := fun p => L.length - p.1) (a := (0, [])) (by simp) (by simp) ?_
        rintro ⟨k, ms⟩ ⟨hk, hms⟩
        simp only at hk hms ⊢
        have w3 : IntKind.i64.wrap ((k : Int) + 1) = (k : Int) + 1 := wrap64 (by omega)
        by_cases hkl : k < L.length
        · obtain ⟨x, hx⟩ : ∃ x, L[k]? = some x := ⟨_, List.getElem?_eq_getElem hkl⟩
          have hxl := hm1 x (List.mem_of_getElem? hx)
          have hLn := line_eq x (by omega)
          have htk : (L.take (k + 1)).map markP = (L.take k).map markP ++ [markP x] := by rw [List.take_add_one, hx]; simp
          cases hm : markP x with
          | none =>
            have hmp : mapP markP L = none := by
              cases hq : mapP markP L with
              | none => rfl
              | some ms' =>
                have := (mapP_some markP).1 hq
                have hxm : markP x ∈ ms'.map some := by rw [← this]; exact List.mem_map_of_mem (List.mem_of_getElem? hx)
                rw [hm] at hxm
                simp at hxm
            have hP' : cutP s = none := hP3 hmp
            have hA : cutAV s = .tup [.str [], .sl .sh [], .bool false] := by unfold cutAV; rw [hP']
            have hLA : lineAV x = .tup [sgZ, .bool false] := by unfold lineAV; rw [hm]
            rw [hLA] at hLn
            unfold sgZ at hLn
            simp (maxSteps := 4000000) [List.getElem?_cons_zero, List.getElem?_cons_succ, -getElem?_pos, hkl, hx, hLn, hA, Tryz.results41]
          | some m =>
            have hLA : lineAV x = .tup [sgF m, .bool true] := by unfold lineAV; rw [hm]
            rw [hLA, sgFx] at hLn
            rw [hm] at htk
            have hmsl : ms.length = k := by have := congrArg List.length hms; simp at this; omega
            have hmost : ms.length + 1 ≤ most := by unfold most; omega
            have hall : allCells 3 (ms.map sgF) := fun y hy => by obtain ⟨z, _, rfl⟩ := List.mem_map.1 hy; exact ⟨rfl, fun c hc => by simp [sgF, AV.cells] at hc; rcases hc with rfl | rfl | rfl <;> rfl⟩
            simp (maxSteps := 4000000) [List.getElem?_cons_zero, List.getElem?_cons_succ, -getElem?_pos, -Prod.exists, hkl, hx, hLn, w3, hmost]
            refine ⟨(k + 1, ms ++ [m]), ⟨by omega, ?_⟩, by simp; omega, by simp [sgFx], by simp⟩
            first
              | (rw [htk, hms]; simp; done)
              | (rw [← List.map_take, htk, hms]; simp)
        · have hkL : k = L.length := by omega
          rw [hkL, List.take_length] at hms
          have hP' : cutP s = some (t, ms) := hP4 ms htp ((mapP_some markP).2 hms)
          have hA : cutAV s = .tup [.str t, .sl .sh (ms.map sgF), .bool true] := by unfold cutAV; rw [hP']
          simp (maxSteps := 4000000) [List.getElem?_cons_zero, List.getElem?_cons_succ, hkl, w1, q1, ht, hA, Tryz.results41]
  · have hA : cutAV s = .tup [.str [], .sl .sh [], .bool false] := by
      have : cutP s = none := cutN_no markP textP hc
      unfold cutAV; rw [this]
    rw [decide_eq_false hc] at hCS
    simp (maxSteps := 4000000) [List.getElem?_cons_zero, List.getElem?_cons_succ, hCS, hA, Tryz.results41]
end Go.Proofs.Tryz.Ai
end
section
/- The program's Open. -/
namespace Go.Proofs.Tryz.Ai
open Go Go.AI Go.Proofs Go.B64
set_option maxHeartbeats 4000000
set_option maxRecDepth 4000
set_option linter.unusedVariables false

theorem verify_meth : meth Tryz.prog 36 12 "Verify" := fun v w => by kernel_rfl
/-- is a key the one of a signature? -/
def isKey (m k : List UInt8 × List UInt8) : Bool := k.1 == m.1 && idN (idH k.1 k.2) == idN m.2
noncomputable def findAV (K : List (List UInt8 × List UInt8)) (m : List UInt8 × List UInt8) : AV := match K.find? (isKey m) with
  | some k => .tup [.ifc 36 (keyF k), .bool true]
  | none => .tup [.nili, .bool false]
theorem find_eq (K : List (List UInt8 × List UInt8)) (hK : K.length ≤ 2 ^ 30) (hk : ∀ k ∈ K, k.1.length ≤ 2 ^ 20 ∧ k.2.length ≤ 2 ^ 20) (m : List UInt8 × List UInt8) (σ) : ev 44 [.sl .sh (K.map keyF), sgF m] σ = some (findAV K m, σ) := by
  obtain ⟨V, hV⟩ : ∃ V : List AV, ((m.2.map .u8).drop 4) = V := ⟨_, rfl⟩
  rw [sgFx, hV]
  refine EV_post rfl Tryz.func44 rfl (by simp [Tryz.ntmps44]) (by kernel_rfl) (by kernel_rfl) ?_
  simp (maxSteps := 4000000) [List.getElem?_cons_zero, List.getElem?_cons_succ, ]
  refine Post_loop (I := fun i : Nat => ⟨[(3, .lp 3 0), (8, .sl .sh (K.map keyF)), (9, .int .i64 K.length), (10, .int .i64 i)], [(3, [.str m.1, .int .u32 (idN m.2), .sl .sh V])], σ⟩) (Pr := fun i => i ≤ K.length ∧ (K.take i).find? (isKey m) = none) (μ := fun i => K.length - i) (a := 0) (by simp) (by simp) ?_
  rintro i ⟨hi, hn⟩
  have w1 : IntKind.i64.wrap ((i : Int) + 1) = (i : Int) + 1 := wrap64 (by omega)
  by_cases hc : i < K.length
  · obtain ⟨k, hx⟩ : ∃ k, K[i]? = some k := ⟨_, List.getElem?_eq_getElem hc⟩
    have hkk := hk k (List.mem_of_getElem? hx)
    have htk : K.take (i + 1) = K.take i ++ [k] := by rw [List.take_add_one, hx]; rfl
    have hf : isKey m k = true → K.find? (isKey m) = some k := fun h => by
      rw [← List.take_append_drop i K, List.find?_append, hn, List.drop_eq_getElem_cons hc, List.find?_cons]
      have : K[i] = k := (List.getElem?_eq_some_iff.1 hx).2
      rw [this, h]; rfl
    have hf2 : isKey m k = false → (K.take (i + 1)).find? (isKey m) = none := fun h => by
      rw [htk, List.find?_append, hn, List.find?_cons, h]; rfl
    obtain ⟨k1, k2⟩ := k
    have hN := Name_eq k1 k2
    have hI := ID_eq k1 k2 hkk.1 hkk.2
    unfold keyAV at hN hI
    have hik : isKey m (k1, k2) = (k1 == m.1 && idN (idH k1 k2) == idN m.2) := rfl
    rw [hik] at hf hf2
    obtain ⟨X, hX⟩ : ∃ X, idN (idH k1 k2) = X := ⟨_, rfl⟩
    obtain ⟨Y, hY⟩ : ∃ Y, idN m.2 = Y := ⟨_, rfl⟩
    rw [hX] at hI hf hf2
    rw [hY] at hf hf2 ⊢
    by_cases c1 : k1 = m.1
    · have c1' : (k1 == m.1) = true := by simpa using c1
      by_cases c2 : X = Y
      · have c2' : (X == Y) = true := by simpa using c2
        have hA : findAV K m = .tup [.ifc 36 (keyF (k1, k2)), .bool true] := by unfold findAV; rw [hf (by rw [c1', c2']; rfl)]
        simp (maxSteps := 4000000) [List.getElem?_cons_zero, List.getElem?_cons_succ, -getElem?_pos, hc, hx, keyFx, hN, hI, c1', eq_true c2, hA, Tryz.results44]
      · have c2' : (X == Y) = false := by simpa using c2
        have hf2' := hf2 (by rw [c1', c2']; rfl)
        simp (maxSteps := 4000000) [List.getElem?_cons_zero, List.getElem?_cons_succ, -getElem?_pos, -Prod.forall, hc, hx, keyFx, hN, hI, c1', c2, w1]
        exact ⟨i + 1, ⟨by omega, by simpa [-Prod.forall] using hf2'⟩, by omega, by simp⟩
    · have c1' : (k1 == m.1) = false := by simpa using c1
      have hf2' := hf2 (by rw [c1']; rfl)
      simp (maxSteps := 4000000) [List.getElem?_cons_zero, List.getElem?_cons_succ, -getElem?_pos, -Prod.forall, hc, hx, keyFx, hN, c1', w1]
      exact ⟨i + 1, ⟨by omega, by simpa [-Prod.forall] using hf2'⟩, by omega, by simp⟩
  · rw [List.take_of_length_le (by omega)] at hn
    have hA : findAV K m = .tup [.nili, .bool false] := by unfold findAV; rw [hn]
    simp (maxSteps := 4000000) [List.getElem?_cons_zero, List.getElem?_cons_succ, hc, hA, Tryz.results44]
def sameM (y x : List UInt8 × List UInt8) : Bool := y.1 == x.1 && idN y.2 == idN x.2
theorem OpenC_eq (y x : List UInt8 × List UInt8) (b : Nat) (σ : List (List AV)) (V : AV) (hb : σ[b]? = some [.str x.1, .int .u32 (idN x.2), V]) :
    ev 43 [sgF y, .gp b 0 (some (87, 3))] σ = some (.bool (sameM y x), σ) := by
  unfold sameM
  rw [sgFx]
  obtain ⟨X, hX⟩ : ∃ X, idN y.2 = X := ⟨_, rfl⟩
  obtain ⟨Y, hY⟩ : ∃ Y, idN x.2 = Y := ⟨_, rfl⟩
  obtain ⟨Z, hZ⟩ : ∃ Z, ((y.2.map AV.u8).drop 4) = Z := ⟨_, rfl⟩
  rw [hX, hY, hZ]
  rw [hY] at hb
  refine EV_post rfl Tryz.func43 rfl (by simp [Tryz.ntmps43]) (by kernel_rfl) (by kernel_rfl) ?_
  by_cases hc : y.1 = x.1
  · have hc' : (y.1 == x.1) = true := by simpa using hc
    by_cases hq : X = Y
    · have hq' : (X == Y) = true := by simpa using hq
      simp (maxSteps := 4000000) [List.getElem?_cons_zero, List.getElem?_cons_succ, -getElem?_pos, hb, hc, hc', hq, hq', Tryz.results43]
    · have hq' : (X == Y) = false := by simpa using hq
      simp (maxSteps := 4000000) [List.getElem?_cons_zero, List.getElem?_cons_succ, -getElem?_pos, hb, hc, hc', hq, hq', Tryz.results43]
  · have hc' : (y.1 == x.1) = false := by simpa using hc
    simp (maxSteps := 4000000) [List.getElem?_cons_zero, List.getElem?_cons_succ, -getElem?_pos, hb, hc, hc', Tryz.results43]
end Go.Proofs.Tryz.Ai
end
section
/- The program's Open, whole. -/
namespace Go.Proofs.Tryz.Ai
open Go Go.AI Go.Proofs Go.B64
set_option maxHeartbeats 8000000
set_option maxRecDepth 4000
set_option linter.unusedVariables false

def loopN (text : List UInt8) (K : List (List UInt8 × List UInt8)) : List (List UInt8 × List UInt8) → List (List UInt8) → List (List UInt8) → List (List UInt8 × List UInt8) → Int ⊕ (List (List UInt8) × List (List UInt8))
  | _, g, u, [] => .inr (g, u)
  | pre, g, u, m :: r => if pre.any (fun y => sameM y m) then .inl 12 else match K.find? (isKey m) with
    | none => loopN text K (pre ++ [m]) g (u ++ [m.1]) r
    | some k => if sigH k.2 text == m.2.drop 4 then loopN text K (pre ++ [m]) (g ++ [m.1]) u r else .inl 21
theorem loopN_cons (text : List UInt8) (K pre : List (List UInt8 × List UInt8)) (g u : List (List UInt8)) (m : List UInt8 × List UInt8) (r : List (List UInt8 × List UInt8)) : loopN text K pre g u (m :: r) = if pre.any (fun y => sameM y m) then .inl 12 else match K.find? (isKey m) with
    | none => loopN text K (pre ++ [m]) g (u ++ [m.1]) r
    | some k => if sigH k.2 text == m.2.drop 4 then loopN text K (pre ++ [m]) (g ++ [m.1]) u r else .inl 21 := rfl
theorem loopN_nil (text : List UInt8) (K pre : List (List UInt8 × List UInt8)) (g u : List (List UInt8)) : loopN text K pre g u [] = .inr (g, u) := rfl
noncomputable def openN (s : List UInt8) (K : List (List UInt8 × List UInt8)) : (List UInt8 × List (List UInt8) × List (List UInt8)) × Int :=
  if 131072 < s.length then (([], [], []), 13) else match cutP s with
    | none => (([], [], []), 15)
    | some r => if 8 < r.2.length then (([], [], []), 14) else match loopN r.1 K [] [] [] r.2 with
      | .inl e => (([], [], []), e)
      | .inr q => if q.1 = [] then (([], [], []), 20) else ((r.1, q.1, q.2), 0)
def openedAV (r : List UInt8 × List (List UInt8) × List (List UInt8)) : AV := .agg [.str r.1, .sl .sh (r.2.1.map .str), .sl .sh (r.2.2.map .str)]
/-- names so far -/
def gd (g : List (List UInt8)) : AV := match g with
  | [] => .sl .nil []
  | _ :: _ => .sl (.ex 9 1) (g.map .str)
theorem gd_app (g : List (List UInt8)) (x : List UInt8) : gd (g ++ [x]) = .sl (.ex 9 1) ((g ++ [x]).map .str) := by cases g <;> rfl
def CInv (σ S : List (List AV)) (c : List AV) : Prop := S[σ.length]? = some c ∧ S.take σ.length = σ
theorem CInv.lt {σ S : List (List AV)} {c : List AV} (h : CInv σ S c) : σ.length < S.length := (List.getElem?_eq_some_iff.1 h.1).1
theorem CInv.app {σ S : List (List AV)} {c : List AV} (h : CInv σ S c) (l : List (List AV)) : CInv σ (S ++ l) c :=
  ⟨by rw [List.getElem?_append_left h.lt]; exact h.1, by rw [List.take_append_of_le_length (Nat.le_of_lt h.lt)]; exact h.2⟩
theorem CInv.set {σ S : List (List AV)} {c : List AV} (h : CInv σ S c) (c' : List AV) : CInv σ (S.set σ.length c') c' :=
  ⟨by rw [List.getElem?_set, if_pos rfl, if_pos h.lt], by rw [List.take_set_of_le (Nat.le_refl _)]; exact h.2⟩
theorem CInv.low {σ S : List (List AV)} {c : List AV} (h : CInv σ S c) : lowS σ S := fun b hb => .inl (by
  have := congrArg (fun l : List (List AV) => l[b]?) h.2
  simp only [List.getElem?_take, if_pos hb] at this
  exact this)
theorem cutP_len {s : List UInt8} {r : List UInt8 × List (List UInt8 × List UInt8)} (h : cutP s = some r) : r.1.length ≤ s.length := by
  obtain ⟨t, ms⟩ := r
  obtain ⟨ls, _, _, h3, _, _⟩ := cutN_is markP textP h
  rw [h3]; simp
theorem Open_eq (s : List UInt8) (K : List (List UInt8 × List UInt8)) (hs : s.length ≤ 2 ^ 29) (hK : K.length ≤ 2 ^ 30) (hk : ∀ k ∈ K, k.1.length ≤ 2 ^ 20 ∧ k.2.length ≤ 2 ^ 20) (σ : List (List AV)) :
    ev 17 [.str s, .sl .sh (K.map keyF)] σ = some (.tup [openedAV (openN s K).1, .int .i64 (openN s K).2], σ) := by
  have hCut := cut_eq s hs
  refine EV_post rfl Tryz.func17 rfl (by simp [Tryz.ntmps17]) (by kernel_rfl) (by kernel_rfl) ?_
  by_cases h1 : 131072 < s.length
  · have hR : openN s K = (([], [], []), 13) := by unfold openN; rw [if_pos h1]
    simp (maxSteps := 4000000) [List.getElem?_cons_zero, List.getElem?_cons_succ, h1, hR, openedAV, Tryz.results17]
  · cases hcp : cutP s with
    | none =>
      have hR : openN s K = (([], [], []), 15) := by unfold openN; rw [if_neg h1, hcp]
      have hA : cutAV s = .tup [.str [], .sl .sh [], .bool false] := by unfold cutAV; rw [hcp]
      rw [hA] at hCut
      simp (maxSteps := 4000000) [List.getElem?_cons_zero, List.getElem?_cons_succ, h1, hCut, hR, openedAV, Tryz.results17]
    | some r =>
      have htl := cutP_len hcp
      have hR0 : openN s K = if 8 < r.2.length then (([], [], []), 14) else match loopN r.1 K [] [] [] r.2 with
        | .inl e => (([], [], []), e)
        | .inr q => if q.1 = [] then (([], [], []), 20) else ((r.1, q.1, q.2), 0) := by unfold openN; rw [if_neg h1, hcp]
      have hA : cutAV s = .tup [.str r.1, .sl .sh (r.2.map sgF), .bool true] := by unfold cutAV; rw [hcp]
      rw [hA] at hCut
      obtain ⟨t, ms⟩ := r
      simp only at hR0 hCut htl
      by_cases h8 : 8 < ms.length
      · rw [if_pos h8] at hR0
        simp (maxSteps := 4000000) [List.getElem?_cons_zero, List.getElem?_cons_succ, h1, hCut, h8, hR0, openedAV, Tryz.results17]
      · rw [if_neg h8] at hR0
        simp (maxSteps := 4000000) [List.getElem?_cons_zero, List.getElem?_cons_succ, h1, hCut, h8]
        refine Post_loop (I := fun p : Nat × List (List UInt8) × List (List UInt8) × List (List AV) => ⟨[(1, .sl .sh (K.map keyF)), (4, .lp 4 0), (6, .str t), (7, .sl .sh (ms.map sgF)), (9, .gp σ.length 0 (some (53, 3))), (33, .sl .sh (ms.map sgF)), (34, .int .i64 ms.length), (35, .int .i64 p.1)], [(4, [.str [], .sl .nil [], .sl .nil []])], p.2.2.2⟩)
          (Pr := fun p => p.1 ≤ ms.length ∧ loopN t K [] [] [] ms = loopN t K (ms.take p.1) p.2.1 p.2.2.1 (ms.drop p.1) ∧ CInv σ p.2.2.2 [.str t, gd p.2.1, gd p.2.2.1] ∧ p.2.1.length ≤ p.1 ∧ p.2.2.1.length ≤ p.1) (μ := fun p => ms.length - p.1) (a := (0, [], [], σ ++ [[.str t, .sl .nil [], .sl .nil []]])) (by simp) ⟨by simp, by simp, ⟨by simp [gd], by simp⟩, by simp, by simp⟩ ?_
        rintro ⟨i, g, u, S⟩ ⟨hi, hl, hC, hgl, hul⟩
        simp only at hi hl hC hgl hul ⊢
        have w1 : IntKind.i64.wrap ((i : Int) + 1) = (i : Int) + 1 := wrap64 (by omega)
        by_cases hc : i < ms.length
        · obtain ⟨x, hx⟩ : ∃ x, ms[i]? = some x := ⟨_, List.getElem?_eq_getElem hc⟩
          have hxe : ms[i] = x := (List.getElem?_eq_some_iff.1 hx).2
          have hdr : ms.drop i = x :: ms.drop (i + 1) := by rw [List.drop_eq_getElem_cons hc, hxe]
          have htk1 : ms.take (i + 1) = ms.take i ++ [x] := by rw [List.take_add_one, hx]; rfl
          rw [hdr] at hl
          rw [loopN_cons] at hl
          have hC1 := hC.app [[.str x.1, .int .u32 (idN x.2), .sl .sh ((x.2.map .u8).drop 4)]]
          have hCF := ContainsFuncS_eq (ms.take i) (by simp; omega) 43 (by decide) [.gp S.length 0 (some (87, 3))] (by rfl) (by simp [AI.pers]) (fun y => sameM y x) (S ++ [[.str x.1, .int .u32 (idN x.2), .sl .sh ((x.2.map .u8).drop 4)]])
            (fun y _ => OpenC_eq y x S.length _ (.sl .sh ((x.2.map .u8).drop 4)) (by simp))
          have htk : List.take i (ms.map sgF) = (ms.take i).map sgF := by rw [List.map_take]
          rw [← htk] at hCF
          have hil : i ≤ ms.length := by omega
          have hall : allCells 3 (ms.map sgF) := fun y hy => by obtain ⟨z, _, rfl⟩ := List.mem_map.1 hy; exact ⟨rfl, fun c hc => by simp [sgF, AV.cells] at hc; rcases hc with rfl | rfl | rfl <;> rfl⟩
          have hFind := find_eq K hK hk x
          rw [sgFx] at hFind
          obtain ⟨V, hV⟩ : ∃ V : List AV, ((x.2.map .u8).drop 4) = V := ⟨_, rfl⟩
          rw [hV] at hC1 hCF hFind
          cases hany : (ms.take i).any (fun y => sameM y x) with
          | true =>
            rw [hany] at hCF hl
            rw [if_pos rfl] at hl
            rw [hl] at hR0
            simp only at hR0
            have hlow := hC1.low
            have htkS := hC1.2
            simp (maxSteps := 4000000) [List.getElem?_cons_zero, List.getElem?_cons_succ, -getElem?_pos, hc, hx, sgFx, hV, hCF, hil, hall, hR0, openedAV, need_of hlow, htkS, Tryz.results17]
          | false =>
            rw [hany] at hCF hl
            rw [if_neg (by simp)] at hl
            have hX0 : (S ++ [[AV.str x.1, .int .u32 (idN x.2), .sl .sh V]])[S.length]? = some [.str x.1, .int .u32 (idN x.2), .sl .sh V] := by simp
            obtain ⟨S1, hS1⟩ : ∃ S1, S ++ [[AV.str x.1, .int .u32 (idN x.2), .sl .sh V]] = S1 := ⟨_, rfl⟩
            obtain ⟨I, hI⟩ : ∃ I : Int, ((idN x.2 : Nat) : Int) = I := ⟨_, rfl⟩
            rw [hI] at hS1 hX0 hC1 hCF hFind
            rw [hS1] at hX0 hC1 hCF
            have hg0 := hC1.1
            have hlt := hC1.lt
            have hne : ¬ σ.length = S.length := by have := hC.lt; omega
            have hgset : ∀ c, (S1.set σ.length c)[σ.length]? = some c := fun c => by rw [List.getElem?_set, if_pos rfl, if_pos hlt]
            have hset2 : ∀ c c', (S1.set σ.length c).set σ.length c' = S1.set σ.length c' := fun c c' => List.set_set ..
            have hlow := hC1.low
            have htkS := hC1.2
            cases hfk : K.find? (isKey x) with
            | none =>
              rw [hfk] at hl
              simp only at hl
              have hFA : findAV K x = .tup [.nili, .bool false] := by unfold findAV; rw [hfk]
              rw [hFA] at hFind
              have hC2 := hC1.set [.str t, gd g, gd (u ++ [x.1])]
              have hC3 := hC2
              rw [gd_app] at hC3
              obtain ⟨G, hG⟩ : ∃ G, gd g = G := ⟨_, rfl⟩
              rw [hG] at hg0 hC3
              cases u with
              | nil =>
                simp only [gd] at hg0
                have hmost := one_most
                simp (maxSteps := 4000000) [List.getElem?_cons_zero, List.getElem?_cons_succ, -getElem?_pos, hc, hx, sgFx, hV, hI, hS1, hCF, hil, hall, hX0, hFind, hg0, hgset, hset2, hne, hlt, List.getElem?_set, one_most, hmost, w1]
                refine ⟨i + 1, g, [] ++ [x.1], _, ⟨by omega, by rw [htk1]; exact hl, hC2, by omega, by simp⟩, by omega, rfl, ?_⟩
                rw [hG]; rfl
              | cons u0 ur =>
                simp only [gd] at hg0
                have hmost : ur.length + 1 + 1 ≤ most := by simp at hul; unfold most; omega
                simp (maxSteps := 4000000) [List.getElem?_cons_zero, List.getElem?_cons_succ, -getElem?_pos, hc, hx, sgFx, hV, hI, hS1, hCF, hil, hall, hX0, hFind, hg0, hgset, hset2, hne, hlt, List.getElem?_set, one_most, hmost, w1]
                refine ⟨i + 1, g, (u0 :: ur) ++ [x.1], _, ⟨by omega, by rw [htk1]; exact hl, hC2, by omega, by simp at hul ⊢; omega⟩, by omega, rfl, ?_⟩
                rw [hG]; simp [gd]
            | some k =>
              rw [hfk] at hl
              simp only at hl
              have hkm := hk k (List.mem_of_find?_eq_some hfk)
              have hFA : findAV K x = .tup [.ifc 36 (keyF k), .bool true] := by unfold findAV; rw [hfk]
              rw [hFA, keyFx] at hFind
              have hVf := Verify_eq k.1 k.2 t (x.2.drop 4) hkm.2 (by omega)
              rw [List.map_drop, hV] at hVf
              unfold keyAV at hVf
              cases hsig : (sigH k.2 t == x.2.drop 4) with
              | false =>
                rw [hsig] at hl hVf
                rw [if_neg (by simp)] at hl
                rw [hl] at hR0
                simp only at hR0
                have hmost := one_most
                simp (maxSteps := 4000000) [List.getElem?_cons_zero, List.getElem?_cons_succ, -getElem?_pos, hc, hx, sgFx, hV, hI, hS1, hCF, hil, hall, hX0, hFind, hg0, hgset, hset2, hne, hlt, List.getElem?_set, one_most, hmost, w1, need_of verify_meth, hVf, hR0, openedAV, need_of hlow, htkS, Tryz.results17]
              | true =>
                rw [hsig] at hl hVf
                rw [if_pos rfl] at hl
                have hC2 := hC1.set [.str t, gd (g ++ [x.1]), gd u]
                have hC3 := hC2
                rw [gd_app] at hC3
                obtain ⟨U, hU⟩ : ∃ U, gd u = U := ⟨_, rfl⟩
                rw [hU] at hg0 hC3
                cases g with
                | nil =>
                  simp only [gd] at hg0
                  have hmost := one_most
                  simp (maxSteps := 4000000) [List.getElem?_cons_zero, List.getElem?_cons_succ, -getElem?_pos, hc, hx, sgFx, hV, hI, hS1, hCF, hil, hall, hX0, hFind, hg0, hgset, hset2, hne, hlt, List.getElem?_set, one_most, hmost, w1, need_of verify_meth, hVf]
                  refine ⟨i + 1, [] ++ [x.1], u, _, ⟨by omega, by rw [htk1]; exact hl, hC2, by simp, by omega⟩, by omega, rfl, ?_⟩
                  rw [hU]; rfl
                | cons g0 gr =>
                  simp only [gd] at hg0
                  have hmost : gr.length + 1 + 1 ≤ most := by simp at hgl; unfold most; omega
                  simp (maxSteps := 4000000) [List.getElem?_cons_zero, List.getElem?_cons_succ, -getElem?_pos, hc, hx, sgFx, hV, hI, hS1, hCF, hil, hall, hX0, hFind, hg0, hgset, hset2, hne, hlt, List.getElem?_set, one_most, hmost, w1, need_of verify_meth, hVf]
                  refine ⟨i + 1, (g0 :: gr) ++ [x.1], u, _, ⟨by omega, by rw [htk1]; exact hl, hC2, by simp at hgl ⊢; omega, by omega⟩, by omega, rfl, ?_⟩
                  rw [hU]; simp [gd]
        · rw [List.drop_of_length_le (by omega), loopN_nil] at hl
          rw [hl] at hR0
          simp only at hR0
          have hg0 := hC.1
          have hlow := hC.low
          have htkS := hC.2
          obtain ⟨U, hU⟩ : ∃ U, gd u = U := ⟨_, rfl⟩
          rw [hU] at hg0
          have hUd : dem U = .sl .sh (u.map .str) := by rw [← hU]; cases u <;> rfl
          cases g with
          | nil =>
            rw [if_pos rfl] at hR0
            simp only [gd] at hg0
            simp (maxSteps := 4000000) [List.getElem?_cons_zero, List.getElem?_cons_succ, -getElem?_pos, hc, hg0, hR0, openedAV, need_of hlow, htkS, Tryz.results17]
          | cons g0 gr =>
            rw [if_neg (by simp)] at hR0
            simp only [gd] at hg0
            have hgz : ¬ ((gr.length : Int) + 1 = 0) := by omega
            cases u with
            | nil =>
              simp only [gd] at hU
              subst hU
              simp (maxSteps := 4000000) [List.getElem?_cons_zero, List.getElem?_cons_succ, -getElem?_pos, hc, hg0, hgz, hR0, openedAV, need_of hlow, htkS, Tryz.results17]
            | cons u0 ur =>
              simp only [gd] at hU
              subst hU
              simp (maxSteps := 4000000) [List.getElem?_cons_zero, List.getElem?_cons_succ, -getElem?_pos, hc, hg0, hgz, hR0, openedAV, need_of hlow, htkS, Tryz.results17]
end Go.Proofs.Tryz.Ai
end
section
/- Heads are printed; keys are made. -/
namespace Go.Proofs.Tryz.Ai
open Go Go.AI Go.Proofs Go.B64
set_option maxHeartbeats 8000000
set_option maxRecDepth 4000
set_option linter.unusedVariables false

theorem ItoaN_eq (n : Nat) (hn : n < 10 ^ 18) (σ) : ev 36 [.int .i64 n] σ = some (.str (Lib.decDigits n), σ) := by
  rw [ev_Itoa]
  have : Lib.itoa (n : Int) = Lib.decDigits n := by unfold Lib.itoa; rw [if_neg (by omega)]; simp
  simp only [itoaT]
  rw [need_of (by omega), this]
def headB : List UInt8 := [109, 101, 119, 115, 32, 108, 111, 103, 10]
/-- a head's text -/
def headT (n : Nat) (root : List UInt8) : List UInt8 := headB ++ Lib.decDigits n ++ [10] ++ b64 root ++ [10]
def fmtH (size : Int) (root : List UInt8) : List UInt8 × Int := if size < 0 ∨ 1048576 < size ∨ root.length ≠ 32 then ([], 15) else (headT size.toNat root, 0)
theorem dec_len7 (n : Nat) (h : n ≤ 1048576) : (Lib.decDigits n).length ≤ 20 := Nat.le_trans (decDigits_len 7 n (by omega)) (by omega)
theorem FormatHead_eq (size : Int) (root : List UInt8) (σ) : ev 15 [.agg [.int .i64 size, .sl .sh (root.map .u8)]] σ = some (.tup [.str (fmtH size root).1, .int .i64 (fmtH size root).2], σ) := by
  refine EV_post rfl Tryz.func15 rfl (by simp [Tryz.ntmps15]) (by kernel_rfl) (by kernel_rfl) ?_
  by_cases h1 : size < 0
  · have hR : fmtH size root = ([], 15) := by unfold fmtH; rw [if_pos (.inl h1)]
    simp (maxSteps := 4000000) [List.getElem?_cons_zero, List.getElem?_cons_succ, h1, hR, Tryz.results15]
  · by_cases h2 : 1048576 < size
    · have hR : fmtH size root = ([], 15) := by unfold fmtH; rw [if_pos (.inr (.inl h2))]
      simp (maxSteps := 4000000) [List.getElem?_cons_zero, List.getElem?_cons_succ, h1, h2, hR, Tryz.results15]
    · by_cases h3 : root.length = 32
      · obtain ⟨n, rfl⟩ := Int.eq_ofNat_of_zero_le (show 0 ≤ size by omega)
        have hR : fmtH n root = (headT n root, 0) := by unfold fmtH; rw [if_neg (by omega)]; rfl
        have hI := ItoaN_eq n (by omega)
        have hB := Base64_eq root (by omega)
        have hbl := b64_len root
        have hdl := dec_len7 n (by omega)
        have hT : headT n root = headB ++ Lib.decDigits n ++ [10] ++ b64 root ++ [10] := rfl
        obtain ⟨B, hBB⟩ : ∃ B, b64 root = B := ⟨_, rfl⟩
        obtain ⟨D, hD⟩ : ∃ D, Lib.decDigits n = D := ⟨_, rfl⟩
        rw [hBB] at hB hbl hT
        rw [hD] at hI hdl hT
        rw [h3] at hbl
        rw [hR, hT]
        clear hR
        simp (maxSteps := 4000000) [List.getElem?_cons_zero, List.getElem?_cons_succ, -List.append_assoc, h1, h2, h3, hI, hB, headB, Tryz.results15]
        repeat (rw [need_of]; rotate_left; (· (try unfold most); omega); simp (maxSteps := 4000000) [List.getElem?_cons_zero, List.getElem?_cons_succ, -List.append_assoc, h1, h2, h3, hI, hB, headB, Tryz.results15])
      · have hR : fmtH size root = ([], 15) := by unfold fmtH; rw [if_pos (.inr (.inr h3))]
        simp (maxSteps := 4000000) [List.getElem?_cons_zero, List.getElem?_cons_succ, h1, h2, h3, hR, Tryz.results15]
def rkeyF (k : List UInt8 × List UInt8) : AV := .agg [.str k.1, .sl .sh (k.2.map .u8)]
theorem rkeyFx (k : List UInt8 × List UInt8) : rkeyF k = .agg [.str k.1, .sl .sh (k.2.map .u8)] := rfl
theorem few_eq (l : List (List UInt8 × List UInt8)) (hl : l.length ≤ 2 ^ 30) (h : ∀ k ∈ l, k.1.length ≤ 2 ^ 30 ∧ k.2.length ≤ 2 ^ 30) (σ) : ∃ b, ev 5 [.sl .sh (l.map rkeyF)] σ = some (.bool b, σ) ∧ (b = true → l.length ≤ 20) := by
  suffices hx : ∃ r : AV × List (List AV), ev 5 [.sl .sh (l.map rkeyF)] σ = some r ∧ ∃ b, r = (.bool b, σ) ∧ (b = true → l.length ≤ 20) by
    obtain ⟨r, h1, b, rfl, h2⟩ := hx
    exact ⟨b, h1, h2⟩
  refine EV_postE rfl Tryz.func5 rfl (by simp [Tryz.ntmps5]) (by kernel_rfl) (by kernel_rfl) ?_
  simp (maxSteps := 4000000) [List.getElem?_cons_zero, List.getElem?_cons_succ, ]
  refine Post_loop (I := fun p : Nat × Nat => ⟨[(0, .sl .sh (l.map rkeyF)), (3, .int .i64 p.1), (4, .int .i64 p.2)], [], σ⟩) (Pr := fun p => p.1 ≤ 8000 ∧ p.2 ≤ l.length) (μ := fun p => l.length - p.2) (a := (0, 0)) (by simp) (by simp) ?_
  rintro ⟨n, i⟩ ⟨hn, hi⟩
  simp only at hn hi ⊢
  by_cases hc : i < l.length
  · by_cases h20 : i ≤ 20
    · obtain ⟨k, hx⟩ : ∃ k, l[i]? = some k := ⟨_, List.getElem?_eq_getElem hc⟩
      have hk := h k (List.mem_of_getElem? hx)
      obtain ⟨k1, k2⟩ := k
      simp only at hk
      obtain ⟨a, ha, ha2⟩ : ∃ a : Nat, (if 4000 < k1.length then (4000 : Int) else (k1.length : Int)) = (a : Int) ∧ a ≤ 4000 := by
        by_cases hq : 4000 < k1.length
        · exact ⟨4000, by rw [if_pos hq]; rfl, by omega⟩
        · exact ⟨k1.length, by rw [if_neg hq], by omega⟩
      obtain ⟨b, hb, hb2⟩ : ∃ a : Nat, (if 4000 < k2.length then (4000 : Int) else (k2.length : Int)) = (a : Int) ∧ a ≤ 4000 := by
        by_cases hq : 4000 < k2.length
        · exact ⟨4000, by rw [if_pos hq]; rfl, by omega⟩
        · exact ⟨k2.length, by rw [if_neg hq], by omega⟩
      have w1 : IntKind.i64.wrap ((n : Int) + a) = ((n + a : Nat) : Int) := by rw [wrap64 (by omega)]; omega
      have w2 : IntKind.i64.wrap (((n + a : Nat) : Int) + b) = ((n + a + b : Nat) : Int) := by rw [wrap64 (by omega)]; omega
      obtain ⟨c, hcc, hc2⟩ : ∃ c : Nat, (if 8000 < n + a + b then (8000 : Int) else ((n + a + b : Nat) : Int)) = (c : Int) ∧ c ≤ 8000 := by
        by_cases hq : 8000 < n + a + b
        · exact ⟨8000, by rw [if_pos hq]; rfl, by omega⟩
        · exact ⟨n + a + b, by rw [if_neg hq], by omega⟩
      obtain ⟨na, hna⟩ : ∃ x, n + a = x := ⟨_, rfl⟩
      rw [hna] at w1 w2 hcc
      obtain ⟨nab, hnab⟩ : ∃ x, na + b = x := ⟨_, rfl⟩
      rw [hnab] at w2 hcc
      have w3 : IntKind.i64.wrap ((i : Int) + 1) = (i : Int) + 1 := wrap64 (by omega)
      simp (maxSteps := 4000000) [List.getElem?_cons_zero, List.getElem?_cons_succ, -getElem?_pos, hc, h20, hx, rkeyFx, ha, hb, w1, w2, hcc, w3]
      exact ⟨c, i + 1, ⟨by omega, by omega⟩, by omega, by simp⟩
    · have hl20 : ¬ l.length ≤ 20 := by omega
      simp (maxSteps := 4000000) [List.getElem?_cons_zero, List.getElem?_cons_succ, hc, h20, hl20, Tryz.results5]
  · by_cases hl20 : l.length ≤ 20
    · simp (maxSteps := 4000000) [List.getElem?_cons_zero, List.getElem?_cons_succ, hc, hl20, Tryz.results5]
      refine ⟨_, _, ⟨rfl, rfl⟩, ?_⟩
      cases decide (n ≤ 4000) <;> simp
    · simp (maxSteps := 4000000) [List.getElem?_cons_zero, List.getElem?_cons_succ, hc, hl20, Tryz.results5]
end Go.Proofs.Tryz.Ai
end
section
/- Keys are made, for both sides. -/
namespace Go.Proofs.Tryz.Ai
open Go Go.AI Go.Proofs Go.B64
set_option maxHeartbeats 8000000
set_option maxRecDepth 4000
set_option linter.unusedVariables false

theorem flatV_msP {s : List (List AV)} {ty b n : Nat} {l r : List UInt8} (d : Nat) (h : s[b]? = some ((l ++ r).map .u8)) (hn : l.length = n) : flatV s (d + 2) (.ms ty 1 b 0 n) = some (.sl .sh (l.map .u8)) := by
  subst hn
  have e : List.take l.length (List.drop 0 ((l ++ r).map AV.u8)) = l.map .u8 := by rw [List.drop_zero, List.map_append]; exact List.take_left' (by simp)
  have c : (1 = 1 ∧ 0 + l.length ≤ ((l ++ r).map AV.u8).length) := ⟨rfl, by simp⟩
  rw [flatV, h, bnd, if_pos c, e, mapO_map (flatV_u8 s d)]; rfl
def TInv (σ S : List (List AV)) : Prop := S.take σ.length = σ ∧ σ.length ≤ S.length
theorem TInv.app {σ S : List (List AV)} (h : TInv σ S) (l : List (List AV)) : TInv σ (S ++ l) :=
  ⟨by rw [List.take_append_of_le_length h.2]; exact h.1, by simp; have := h.2; omega⟩
theorem TInv.set {σ S : List (List AV)} (h : TInv σ S) {b : Nat} (hb : σ.length ≤ b) (c : List AV) : TInv σ (S.set b c) :=
  ⟨by rw [List.take_set_of_le hb]; exact h.1, by simp; exact h.2⟩
theorem TInv.low {σ S : List (List AV)} (h : TInv σ S) : lowS σ S := fun b hb => .inl (by
  have := congrArg (fun l : List (List AV) => l[b]?) h.1
  simp only [List.getElem?_take, if_pos hb] at this
  exact this)
/-- the keys among them; as the program has them -/
def keysG (l : List (List UInt8 × List UInt8)) : List (List UInt8 × List UInt8) := l.filter fun k => goodK k.1 k.2
def hK (k : List UInt8 × List UInt8) : List UInt8 × List UInt8 := (k.1, sha256 k.2)
theorem Keys_eq (l : List (List UInt8 × List UInt8)) (hl : l.length ≤ 2 ^ 30) (h : ∀ k ∈ l, k.1.length ≤ 2 ^ 20 ∧ k.2.length ≤ 2 ^ 20) (σ : List (List AV)) :
    ev 6 [.sl .sh (l.map rkeyF)] σ = some (.tup [.sl .sh ((keysG l).map fun k => keyF (hK k)), .sl .sh ((keysG l).map rkeyF), .bool true], σ) := by
  refine EV_post rfl Tryz.func6 rfl (by simp [Tryz.ntmps6]) (by kernel_rfl) (by kernel_rfl) ?_
  simp (maxSteps := 4000000) [List.getElem?_cons_zero, List.getElem?_cons_succ, ]
  refine Post_loop (I := fun p : Nat × List (List AV) => ⟨[(0, .sl .sh (l.map rkeyF)), (5, .sl (.ex 36 2) ((keysG (l.take p.1)).map fun k => keyF (hK k))), (6, .sl (.ex 41 2) ((keysG (l.take p.1)).map rkeyF)), (7, .int .i64 p.1)], [], p.2⟩)
    (Pr := fun p => p.1 ≤ l.length ∧ TInv σ p.2) (μ := fun p => l.length - p.1) (a := (0, σ)) (by simp [keysG]) ⟨by simp, by simp, by simp⟩ ?_
  rintro ⟨i, S⟩ ⟨hi, hS⟩
  simp only at hi hS ⊢
  have hgl : (keysG (l.take i)).length ≤ l.length := by
    have := List.length_filter_le (fun k : List UInt8 × List UInt8 => goodK k.1 k.2) (l.take i)
    unfold keysG; simp at this ⊢; omega
  by_cases hc : i < l.length
  · obtain ⟨k, hx⟩ : ∃ k, l[i]? = some k := ⟨_, List.getElem?_eq_getElem hc⟩
    have hk := h k (List.mem_of_getElem? hx)
    have htk : keysG (l.take (i + 1)) = keysG (l.take i) ++ keysG [k] := by unfold keysG; rw [List.take_add_one, hx, List.filter_append]; rfl
    obtain ⟨n, s⟩ := k
    simp only at hk
    obtain ⟨b, j, hLent, hbox, hb⟩ := Lent_eq s (by omega) S
    have hmk : mapO (flatV (S ++ j) 8) [.str n, .ms 5 1 b 0 s.length] = some [.str n, .sl .sh (s.map .u8)] := by
      simp only [mapO, flatV_msP (r := [201]) 6 hbox rfl, bnd]
      rfl
    have hNK := EV_brw (T := T) (H := H) (P := Tryz.prog) (f := 14) rfl hmk (NewKey_eq n s (by omega) []) (by cases goodK n s <;> rfl)
    have hKept := Kept_eq b s s.length rfl (by omega) (S ++ j) hbox
    have hGood := Good_eq n s (by omega)
    have hTj := hS.app j
    have hNum := fun (e : Int) => Num_eq e
    have hNumber := Number_eq n s (by omega) (by omega)
    have hNm := Name_eq n (sha256 s)
    have hID := ID_eq n (sha256 s) (by omega) (by rw [sha256_len]; omega)
    unfold keyAV at hNK hNm hID
    unfold rkeyAV at hNumber hGood
    have hkG : keysG [(n, s)] = if goodK n s then [(n, s)] else [] := by unfold keysG; rw [List.filter_cons]; rfl
    have hkG' := hkG
    obtain ⟨ln, hln⟩ : ∃ m, s.length = m := ⟨_, rfl⟩
    rw [hln] at hLent hNK hKept
    have hbσ : σ.length ≤ b := by have := hS.2; omega
    obtain ⟨S1, hS1⟩ : ∃ S1, S ++ j = S1 := ⟨_, rfl⟩
    rw [hS1] at hLent hbox hNK hKept hTj
    have hC0 : ((s ++ [201]).map AV.u8).length = ln + 1 := by simp [hln]
    obtain ⟨C0, hCC⟩ : ∃ C, (s ++ [201]).map AV.u8 = C := ⟨_, rfl⟩
    rw [hCC] at hbox hC0
    obtain ⟨hsh, hhsh⟩ : ∃ x, sha256 s = x := ⟨_, rfl⟩
    rw [hhsh] at hNK hNumber hNm hID
    obtain ⟨N, hN⟩ : ∃ N, idN (idH n hsh) = N := ⟨_, rfl⟩
    rw [hN] at hNumber hID
    have hKey : keyF (hK (n, s)) = .agg [.str n, .str hsh] := by unfold hK; rw [hhsh]; rfl
    have w1 : IntKind.i64.wrap ((i : Int) + 1) = (i : Int) + 1 := wrap64 (by omega)
    obtain ⟨X, Y, e, hXY⟩ : ∃ (X Y : List UInt8) (e : Int), (X, Y, e) = if goodK n s then (n, hsh, 0) else ([], [], 20) := ⟨_, _, _, rfl⟩
    have hNK' : ev (900000 + 14) [.str n, .ms 5 1 b 0 ln] S1 = some (.tup [.agg [.str X, .str Y], .int .i64 e], S1) := by
      rw [show (900000 + 14 : Nat) = 900000 + 14 from rfl]
      refine hNK.trans ?_
      cases hg : goodK n s with
      | true => rw [hg] at hXY; simp at hXY; obtain ⟨rfl, rfl, rfl⟩ := hXY; rfl
      | false => rw [hg] at hXY; simp at hXY; obtain ⟨rfl, rfl, rfl⟩ := hXY; rfl
    simp (maxSteps := 4000000) [List.getElem?_cons_zero, List.getElem?_cons_succ, -getElem?_pos, hc, hx, rkeyFx, hLent, hNK', hKept]
    refine Post_loop (I := fun p : Nat × List (List AV) => ⟨[(0, .sl .sh (l.map rkeyF)), (5, .sl (.ex 36 2) ((keysG (l.take i)).map fun k => keyF (hK k))), (6, .sl (.ex 41 2) ((keysG (l.take i)).map rkeyF)), (7, .int .i64 i), (8, .lp 8 0), (9, .ms 5 1 b 0 ln), (10, .lp 10 0), (11, .int .i64 e), (12, .bool true), (13, .int .i64 p.1)], [(8, [.str n, .sl .sh (s.map .u8)]), (10, [.str X, .str Y])], p.2⟩)
      (Pr := fun p => p.1 ≤ ln ∧ TInv σ p.2 ∧ ∃ C, p.2[b]? = some C ∧ C.length = ln + 1) (μ := fun p => ln - p.1) (a := (0, S1)) (by simp) ⟨by simp, hTj, C0, hbox, hC0⟩ ?_
    rintro ⟨q, S2⟩ ⟨hq, hT2, C, hCb, hCl⟩
    simp only at hq hT2 hCb ⊢
    by_cases hql : q < ln
    · have w2 : IntKind.i64.wrap ((q : Int) + 1) = (q : Int) + 1 := wrap64 (by omega)
      have hbS : b < S2.length := (List.getElem?_eq_some_iff.1 hCb).1
      have hq1 : q + 1 ≤ ln + 1 := by omega
      simp (maxSteps := 4000000) [List.getElem?_cons_zero, List.getElem?_cons_succ, -getElem?_pos, -Prod.exists, hql, hCb, hCl, hq1, w2]
      refine ⟨(q + 1, _), ⟨by simp only; omega, hT2.set hbσ _, _, by simp only; rw [List.getElem?_set, if_pos rfl, if_pos hbS], ?_⟩, by simp only; omega, by simp, rfl⟩
      simp only [List.length_append, List.length_take, List.length_cons, List.length_drop]
      omega
    · have hmostl : (keysG (l.take i)).length + 1 ≤ most := by unfold most; omega
      have hlow := hT2.low
      cases hg : goodK n s with
      | false =>
        rw [hg] at hXY hGood hkG
        simp at hXY
        obtain ⟨rfl, rfl, rfl⟩ := hXY
        rw [if_neg (by simp)] at hkG
        rw [hkG, List.append_nil] at htk
        simp (maxSteps := 4000000) [List.getElem?_cons_zero, List.getElem?_cons_succ, -Prod.exists, hql, hGood, hNum, w1]
        exact ⟨(i + 1, S2), ⟨by simp only; omega, hT2⟩, by simp only; omega, ⟨by rw [htk], by rw [htk], by simp⟩, rfl⟩
      | true =>
        rw [hg] at hXY hGood hkG
        simp at hXY
        obtain ⟨rfl, rfl, rfl⟩ := hXY
        rw [if_pos rfl] at hkG
        rw [hkG] at htk
        simp (maxSteps := 4000000) [List.getElem?_cons_zero, List.getElem?_cons_succ, -Prod.exists, hql, hGood, hNum, hNm, hID, hNumber, hmostl, w1]
        exact ⟨(i + 1, S2), ⟨by simp only; omega, hT2⟩, by simp only; omega, ⟨by rw [htk, List.map_append, List.map_singleton, hKey], by rw [htk, List.map_append]; rfl, by simp⟩, rfl⟩
  · have hil : i = l.length := by omega
    rw [hil, List.take_length]
    have hlow := hS.low
    simp (maxSteps := 4000000) [List.getElem?_cons_zero, List.getElem?_cons_succ, hc, hS.1, Tryz.results6]
    rw [need_of ⟨⟨fun a b _ => by simp [keyF], fun a b _ => by simp [rkeyF]⟩, hlow⟩]
end Go.Proofs.Tryz.Ai
end
section
/- A signed note, read again. -/
namespace Go.Proofs.Tryz.Ai
open Go Go.AI Go.Proofs Go.B64
set_option maxHeartbeats 1000000
set_option linter.unusedVariables false

/-- what a signature's line says -/
def sgM (text : List UInt8) (k : List UInt8 × List UInt8) : List UInt8 × List UInt8 := (k.1, (idH k.1 k.2).take 4 ++ sigH k.2 text)
def sgLine (text : List UInt8) (k : List UInt8 × List UInt8) : List UInt8 := dashB ++ (k.1 ++ 32 :: b64 (sgM text k).2)
theorem signLine_sg (text : List UInt8) (k : List UInt8 × List UInt8) : signLine text k = sgLine text k ++ [10] := by simp [signLine, sgLine, sgM]
theorem nameP_no {n : List UInt8} (h : nameP n = true) : (32 : UInt8) ∉ n ∧ (10 : UInt8) ∉ n := by
  simp only [nameP, Bool.and_eq_true, Bool.not_eq_true', List.any_eq_false] at h
  refine ⟨fun q => ?_, fun q => ?_⟩
  · exact absurd (h.2 _ q) (by decide)
  · exact absurd (h.2 _ q) (by decide)
theorem ix_mid {c : UInt8} {a b : List UInt8} (h : c ∉ a) : ix c (a ++ c :: b) = some a.length := by
  induction a with
  | nil => simp [ix]
  | cons x r ih =>
    simp only [List.mem_cons, not_or] at h
    have := ih h.2
    simp only [List.cons_append, ix, this, List.length_cons]
    rw [if_neg (fun e => h.1 e.symm)]
    rfl
theorem sgM_len (text : List UInt8) (k : List UInt8 × List UInt8) : (sgM text k).2.length = 36 := by simp [sgM, idH_len, sigH_len]
theorem markP_line (text : List UInt8) (k : List UInt8 × List UInt8) (h : nameP k.1 = true) : markP (sgLine text k) = some (sgM text k) := by
  have hd : (sgLine text k).drop 4 = k.1 ++ 32 :: b64 (sgM text k).2 := by unfold sgLine; rw [show (4 : Nat) = dashB.length from rfl, List.drop_left]
  have hp : dashB.isPrefixOf (sgLine text k) = true := by rw [List.isPrefixOf_iff_prefix]; exact List.prefix_append _ _
  unfold markP
  rw [if_pos hp, hd, ix_mid (nameP_no h).1]
  simp only [List.take_left]
  have h2 : (k.1 ++ 32 :: b64 (sgM text k).2).drop (k.1.length + 1) = b64 (sgM text k).2 := by rw [← List.drop_drop, List.drop_left]; rfl
  rw [h2, if_pos h, from64_b64]
  simp only
  rw [if_pos (by rw [sgM_len]; omega)]
  rfl
theorem sgLine_no (text : List UInt8) (k : List UInt8 × List UInt8) (h : nameP k.1 = true) : (10 : UInt8) ∉ sgLine text k := by
  unfold sgLine
  intro q
  rcases List.mem_append.1 q with q | q
  · exact absurd q (by decide)
  · rcases List.mem_append.1 q with q | q
    · exact (nameP_no h).2 q
    · rcases List.mem_cons.1 q with q | q
      · exact absurd q (by decide)
      · exact b64_not 10 (by decide +kernel) (by decide) _ q
def sNote (text : List UInt8) (K : List (List UInt8 × List UInt8)) : List UInt8 := text ++ [10] ++ K.flatMap (signLine text)
theorem cutP_signed (text : List UInt8) (K : List (List UInt8 × List UInt8)) (ht : textP text = true) (hK : K ≠ []) (hn : ∀ k ∈ K, nameP k.1 = true) : cutP (sNote text K) = some (text, K.map (sgM text)) := by
  refine is_cutN markP textP markP_ne textP_end ⟨K.map (sgLine text), by simpa using hK, ?_, ?_, ht, ?_⟩
  · intro x hx
    obtain ⟨k, hk, rfl⟩ := List.mem_map.1 hx
    exact sgLine_no text k (hn k hk)
  · unfold sNote unl
    rw [List.append_assoc, List.flatMap_def, List.map_map]
    simp only [List.singleton_append]
    congr 3
    exact List.map_congr_left fun k _ => signLine_sg text k
  · rw [mapP_some, List.map_map, List.map_map]
    exact List.map_congr_left fun k hk => markP_line text k (hn k hk)
theorem idN_app (b c : List UInt8) (h : 4 ≤ b.length) : idN (b.take 4 ++ c) = idN b := by
  obtain ⟨a0, a1, a2, a3, r, rfl⟩ := four b h
  rfl
theorem sgM_id (text : List UInt8) (k : List UInt8 × List UInt8) : idN (sgM text k).2 = idN (idH k.1 k.2) := idN_app _ _ (by rw [idH_len]; omega)
theorem sameM_sg (text : List UInt8) (x k : List UInt8 × List UInt8) : sameM (sgM text x) (sgM text k) = sameK x k := by
  unfold sameM sameK; rw [sgM_id, sgM_id]; rfl
theorem isKey_sg (text : List UInt8) (x k : List UInt8 × List UInt8) : isKey (sgM text k) x = sameK x k := by
  unfold isKey sameK; rw [sgM_id]; rfl
theorem drop_sg (text : List UInt8) (k : List UInt8 × List UInt8) : (sgM text k).2.drop 4 = sigH k.2 text := by
  have : ((idH k.1 k.2).take 4).length = 4 := by rw [List.length_take, idH_len]; rfl
  exact List.drop_left' this
theorem sameK_refl (k : List UInt8 × List UInt8) : sameK k k = true := by simp [sameK]
theorem sameK_symm (x k : List UInt8 × List UInt8) : sameK x k = sameK k x := by
  unfold sameK
  rw [Bool.eq_iff_iff]
  simp only [Bool.and_eq_true, beq_iff_eq]
  exact ⟨fun h => ⟨h.1.symm, h.2.symm⟩, fun h => ⟨h.1.symm, h.2.symm⟩⟩
/-- no two of the same -/
def Uniq (K : List (List UInt8 × List UInt8)) : Prop := ∀ (i j : Nat) (x y : List UInt8 × List UInt8), K[i]? = some x → K[j]? = some y → sameK x y = true → i = j
theorem uniq_of {K : List (List UInt8 × List UInt8)} (h : dupK K = false) : Uniq K := by
  have key : ∀ (i j : Nat) (x y : List UInt8 × List UInt8), i < j → K[i]? = some x → K[j]? = some y → sameK x y = false := by
    intro i j x y hij hx hy
    unfold dupK at h
    rw [List.any_eq_false] at h
    have hj := (List.getElem?_eq_some_iff.1 hy).1
    have := h j (List.mem_range.2 hj)
    simp only [hy] at this
    cases q : sameK x y with
    | false => rfl
    | true =>
      refine absurd ?_ this
      rw [List.any_eq_true]
      refine ⟨x, ?_, q⟩
      refine List.mem_iff_getElem?.2 ⟨i, ?_⟩
      rw [List.getElem?_take, if_pos hij]; exact hx
  intro i j x y hx hy hs
  rcases Nat.lt_trichotomy i j with q | q | q
  · rw [key i j x y q hx hy] at hs; cases hs
  · exact q
  · rw [sameK_symm, key j i y x q hy hx] at hs; cases hs
/-- opened with some of its keys -/
theorem loopN_signed (text : List UInt8) (T : List (List UInt8 × List UInt8)) : ∀ (r pre : List (List UInt8 × List UInt8)) (g u : List (List UInt8)), Uniq (pre ++ r) → (∀ t ∈ T, t ∈ pre ++ r) →
    loopN text T (pre.map (sgM text)) g u (r.map (sgM text)) = .inr (g ++ (r.filter (fun k => decide (k ∈ T))).map (·.1), u ++ (r.filter (fun k => !decide (k ∈ T))).map (·.1)) := by
  intro r
  induction r with
  | nil => intro pre g u _ _; simp [loopN_nil]
  | cons k r ih =>
    intro pre g u hU hT
    rw [List.map_cons, loopN_cons]
    have hkk : (pre ++ k :: r)[pre.length]? = some k := by simp
    have hno : (pre.map (sgM text)).any (fun y => sameM y (sgM text k)) = false := by
      rw [List.any_eq_false]
      intro y hy
      obtain ⟨x, hx, rfl⟩ := List.mem_map.1 hy
      obtain ⟨i, hi⟩ := List.mem_iff_getElem?.1 hx
      have hil := (List.getElem?_eq_some_iff.1 hi).1
      rw [sameM_sg]
      intro hs
      have := hU i pre.length x k (by rw [List.getElem?_append_left hil]; exact hi) hkk hs
      omega
    rw [hno, if_neg (by simp)]
    have hmem : ∀ t ∈ T, sameK t k = true → t = k := by
      intro t ht hs
      obtain ⟨i, hi⟩ := List.mem_iff_getElem?.1 (hT t ht)
      have := hU i pre.length t k hi hkk hs
      subst this
      rw [hkk] at hi
      injection hi with hi; exact hi.symm
    have hpre : pre.map (sgM text) ++ [sgM text k] = (pre ++ [k]).map (sgM text) := by simp
    have hU' : Uniq ((pre ++ [k]) ++ r) := by rw [List.append_assoc]; exact hU
    have hT' : ∀ t ∈ T, t ∈ (pre ++ [k]) ++ r := fun t ht => by rw [List.append_assoc]; exact hT t ht
    by_cases hk : k ∈ T
    · have hf : T.find? (isKey (sgM text k)) = some k := by
        cases hq : T.find? (isKey (sgM text k)) with
        | none => exact absurd (sameK_refl k) (by have := List.find?_eq_none.1 hq k hk; rw [isKey_sg] at this; exact this)
        | some x =>
          have h1 := List.mem_of_find?_eq_some hq
          have h2 := List.find?_some hq
          rw [isKey_sg] at h2
          rw [hmem x h1 h2]
      rw [hf]
      simp only [drop_sg, beq_self_eq_true, if_true]
      rw [hpre, ih (pre ++ [k]) _ _ hU' hT']
      simp [List.filter_cons, hk, sgM]
    · have hf : T.find? (isKey (sgM text k)) = none := by
        rw [List.find?_eq_none]
        intro x hx hs
        rw [isKey_sg] at hs
        exact hk (by rw [← hmem x hx hs]; exact hx)
      rw [hf]
      simp only
      rw [hpre, ih (pre ++ [k]) _ _ hU' hT']
      simp [List.filter_cons, hk, sgM]
theorem flat_le (text : List UInt8) (K : List (List UInt8 × List UInt8)) (h : ∀ k ∈ K, nameP k.1 = true) : (K.flatMap (signLine text)).length ≤ K.length * 104 := by
  induction K with
  | nil => simp
  | cons k r ih =>
    have h1 : k.1.length ≤ 50 := by
      have := h k (by simp)
      simp only [nameP, Bool.and_eq_true, decide_eq_true_eq] at this
      exact this.1.2
    have h2 := ih fun x hx => h x (by simp [hx])
    rw [List.flatMap_cons, List.length_append, signLine_len, List.length_cons]
    omega
theorem openN_signed (text : List UInt8) (K T : List (List UInt8 × List UInt8)) (ht : textP text = true) (hl : text.length ≤ 65536) (hK : K ≠ []) (hK8 : K.length ≤ 8) (hn : ∀ k ∈ K, nameP k.1 = true) (hd : dupK K = false) (hT : ∀ t ∈ T, t ∈ K) :
    openN (sNote text K) T = if (K.filter fun k => decide (k ∈ T)) = [] then (([], [], []), 20) else ((text, (K.filter fun k => decide (k ∈ T)).map (·.1), (K.filter fun k => !decide (k ∈ T)).map (·.1)), 0) := by
  have hlen : ¬ 131072 < (sNote text K).length := by
    have := flat_le text K hn
    unfold sNote
    simp only [List.length_append, List.length_cons, List.length_nil]
    omega
  unfold openN
  rw [if_neg hlen, cutP_signed text K ht hK hn]
  simp only [List.length_map]
  rw [if_neg (by omega)]
  have := loopN_signed text T K [] [] [] (by simpa using uniq_of hd) (by simpa using hT)
  rw [List.map_nil] at this
  rw [this]
  simp only [List.nil_append, List.map_eq_nil_iff]
end Go.Proofs.Tryz.Ai
end
section
/- mewslaw8.first: yes. -/
namespace Go.Proofs.Tryz.Ai
open Go Go.AI Go.Proofs Go.B64
set_option maxHeartbeats 4000000
set_option maxRecDepth 4000
set_option linter.unusedVariables false

theorem signed_one (h : List UInt8) : sgn [104, 105, 10] [([108, 111, 103], h)] = (sNote [104, 105, 10] [([108, 111, 103], h)], 0) := by
  have h1 : textP [104, 105, 10] = true := by decide +kernel
  unfold sgn
  rw [if_neg (by rw [h1]; simp), if_neg (by simp), if_neg (by simp [dupK]), if_neg (by simp), if_neg (by simp)]
  rfl
theorem opened_one (h : List UInt8) : openN (sNote [104, 105, 10] [([108, 111, 103], h)]) [([108, 111, 103], h)] = (([104, 105, 10], [[108, 111, 103]], []), 0) := by
  have h1 : textP [104, 105, 10] = true := by decide +kernel
  have h2 : nameP [108, 111, 103] = true := by decide +kernel
  have := openN_signed [104, 105, 10] [([108, 111, 103], h)] [([108, 111, 103], h)] h1 (by simp) (by simp) (by simp) (fun k hk => by simp at hk; subst hk; exact h2) (by simp [dupK]) (fun t ht => ht)
  rw [this]
  simp
theorem head_zero : headT 0 (sha256 []) = [109, 101, 119, 115, 32, 108, 111, 103, 10, 48, 10, 52, 55, 68, 69, 81, 112, 106, 56, 72, 66, 83, 97, 43, 47, 84, 73, 109, 87, 43, 53, 74, 67, 101, 117, 81, 101, 82, 107, 109, 53, 78, 77, 112, 74, 87, 90, 71, 51, 104, 83, 117, 70, 85, 61, 10] := by
  have h1 : b64 (sha256 []) = [52, 55, 68, 69, 81, 112, 106, 56, 72, 66, 83, 97, 43, 47, 84, 73, 109, 87, 43, 53, 74, 67, 101, 117, 81, 101, 82, 107, 109, 53, 78, 77, 112, 74, 87, 90, 71, 51, 104, 83, 117, 70, 85, 61] := by decide +kernel
  have h2 : Lib.decDigits 0 = [48] := by decide +kernel
  unfold headT
  rw [h1, h2]
  rfl
theorem first_eq (σ) : ev 4 [] σ = some (.bool true, σ) := by
  have hg1 : goodK [] [115] = false := by decide +kernel
  have hg2 : goodK [108, 111, 103] [115] = true := by decide +kernel
  obtain ⟨D, hD⟩ : ∃ D, sha256 [115] = D := ⟨_, rfl⟩
  have hDl : D.length = 32 := by rw [← hD]; exact sha256_len _
  have hK1 : ∀ σ, ev 14 [.str [], .sl .sh [.int .u8 115]] σ = some (.tup [keyAV [] [], .int .i64 20], σ) := fun σ => by
    have := NewKey_eq [] [115] (by simp) σ
    rw [hg1] at this; exact this
  have hK2 : ∀ σ, ev 14 [.str [108, 111, 103], .sl .sh [.int .u8 115]] σ = some (.tup [keyAV [108, 111, 103] D, .int .i64 0], σ) := fun σ => by
    have := NewKey_eq [108, 111, 103] [115] (by simp) σ
    rw [hg2, hD] at this; exact this
  obtain ⟨E, hE⟩ : ∃ E, sha256 [] = E := ⟨_, rfl⟩
  have hEl : E.length = 32 := by rw [← hE]; exact sha256_len _
  have hA : ∀ σ, ev 16 [.sl .sh []] σ = some (.sl (.ex 5 1) (E.map .u8), σ) := fun σ => by
    have := SHA256_eq .sh [] (by simp) σ
    rw [hE] at this; exact this
  have hF : ∀ σ, ev 15 [.agg [.int .i64 0, .sl .sh (E.map .u8)]] σ = some (.tup [.str [109, 101, 119, 115, 32, 108, 111, 103, 10, 48, 10, 52, 55, 68, 69, 81, 112, 106, 56, 72, 66, 83, 97, 43, 47, 84, 73, 109, 87, 43, 53, 74, 67, 101, 117, 81, 101, 82, 107, 109, 53, 78, 77, 112, 74, 87, 90, 71, 51, 104, 83, 117, 70, 85, 61, 10], .int .i64 0], σ) := fun σ => by
    have := FormatHead_eq 0 E σ
    have hq : fmtH 0 E = (headT 0 E, 0) := by unfold fmtH; rw [if_neg (by rw [hEl]; omega)]; rfl
    rw [hq, ← hE, head_zero, hE] at this
    exact this
  have hS : ∀ σ, ev 7 [.str [104, 105, 10], .sl .sh [keyAV [108, 111, 103] D]] σ = some (.tup [.str (sNote [104, 105, 10] [([108, 111, 103], D)]), .int .i64 0], σ) := fun σ => by
    have := NoteSign_eq [104, 105, 10] [([108, 111, 103], D)] (by simp) (by simp) (fun k hk => by simp at hk; subst hk; simp [hDl]) σ
    rw [signed_one] at this
    exact this
  have hO : ∀ σ, ev 17 [.str (sNote [104, 105, 10] [([108, 111, 103], D)]), .sl .sh [keyAV [108, 111, 103] D]] σ = some (.tup [.agg [.str [104, 105, 10], .sl .sh [.str [108, 111, 103]], .sl .sh []], .int .i64 0], σ) := fun σ => by
    have := Open_eq (sNote [104, 105, 10] [([108, 111, 103], D)]) [([108, 111, 103], D)] (by simp [sNote, signLine_len]) (by simp) (fun k hk => by simp at hk; subst hk; simp [hDl]) σ
    rw [opened_one] at this
    exact this
  have hN : ∀ n σ, ev 13 [.int .i64 n] σ = some (.int .i64 n, σ) := fun n σ => Num_eq n σ
  obtain ⟨S, hSn⟩ : ∃ S, sNote [104, 105, 10] [([108, 111, 103], D)] = S := ⟨_, rfl⟩
  rw [hSn] at hS hO
  unfold keyAV at hK1 hK2 hS hO
  clear hg1 hg2 hD hE hSn
  refine EV_post rfl Tryz.func4 rfl (by simp [Tryz.ntmps4]) (by kernel_rfl) (by kernel_rfl) ?_
  simp (maxSteps := 4000000) [List.getElem?_cons_zero, List.getElem?_cons_succ, hK1, hK2, hA, hF, hS, hO, hN, Tryz.results4]
end Go.Proofs.Tryz.Ai
end
section
/- SHA-256, the document's, handed back in a box. -/
namespace Go.Proofs.Tryz.Ai
open Go Go.AI Go.Proofs
set_option maxHeartbeats 8000000
set_option maxRecDepth 4000
set_option linter.unusedVariables false

def isBox (σ : List (List AV)) (x : List UInt8) (r : AV × List (List AV)) : Prop := ∃ c S, r = (.ms 5 1 c 0 32, S) ∧ S[c]? = some (x.map .u8) ∧ S.take σ.length = σ ∧ σ.length ≤ c
/-- the same, handed back in a box of its own -/
theorem rSHA256M_eq (o : Own) (b : List UInt8) (hl : b.length ≤ 1073741824) (σ : List (List AV)) : ∃ c S, ev (100000 + 33) [.sl o (b.map .u8)] σ = some (.ms 5 1 c 0 32, S) ∧ S[c]? = some ((sha256 b).map .u8) ∧ S.take σ.length = σ ∧ σ.length ≤ c := by
  suffices hx : ∃ r : AV × List (List AV), ev (100000 + 33) [.sl o (b.map .u8)] σ = some r ∧ isBox σ (sha256 b) r by
    obtain ⟨r, h1, c, S, rfl, h2⟩ := hx
    exact ⟨c, S, h1, h2⟩
  have hK := rconstants_eq σ
  have hB := Bytes_eq .sh b (by omega) (σ ++ [vInit.cs])
  have hcs : vInit.cs = [.int .u32 1779033703, .int .u32 3144134277, .int .u32 1013904242, .int .u32 2773480762, .int .u32 1359893119, .int .u32 2600822924, .int .u32 528734635, .int .u32 1541459225] := rfl
  rw [hcs] at hB
  obtain ⟨K, hKK⟩ : ∃ K, kConst.map (AV.int .u32) = K := ⟨_, rfl⟩
  rw [hKK] at hK
  have q0 : b.length + 1 ≤ most := by unfold most; omega
  refine EV_postE rfl Tryz.func33 rfl (by simp [Tryz.ntmps33]) (by kernel_rfl) (by kernel_rfl) ?_
  simp (maxSteps := 4000000) [List.getElem?_cons_zero, List.getElem?_cons_succ, hK, hB, q0]
  -- zeros
  refine Post_loop (I := fun k : Nat => ⟨[(0, .sl o (b.map .u8)), (3, .sl (.ex 59 1) K), (4, .ms 59 1 σ.length 0 8), (5, .sl (.ex 5 1) ((b ++ [128] ++ List.replicate k 0).map .u8))], [], σ ++ [vInit.cs]⟩)
    (Pr := fun k => k ≤ padN b.length) (μ := fun k => padN b.length - k) (a := 0) (by simp [hcs]) (by omega) ?_
  intro k hk
  have hp64 : padN b.length < 64 := Nat.mod_lt _ (by omega)
  have hpe := padN_eq b.length k hk
  obtain ⟨L, hL⟩ : ∃ L, b ++ [128] ++ List.replicate k 0 = L := ⟨_, rfl⟩
  have hLl : L.length = b.length + 1 + k := by rw [← hL]; simp; omega
  simp only [hL]
  by_cases hc : k = padN b.length
  rotate_left
  · have c1 : ¬ ((L.length : Int).tmod 64 = 56) := by rw [Int.tmod_eq_emod_of_nonneg (by omega), hLl]; omega
    have q4 : L.length + 1 ≤ most := by unfold most; omega
    simp (maxSteps := 4000000) [List.getElem?_cons_zero, List.getElem?_cons_succ, c1, q4]
    refine ⟨k + 1, by omega, by omega, ?_⟩
    rw [← hL, List.replicate_succ']; simp
  have c1 : ((L.length : Int).tmod 64 = 56) := by rw [Int.tmod_eq_emod_of_nonneg (by omega), hLl]; omega
  have u1 : IntKind.u64.wrap (b.length : Int) = b.length := wrapU64 (by omega)
  have u2 : IntKind.u64.wrap ((b.length : Int) * 8) = ((8 * b.length : Nat) : Int) := by rw [wrapU64 (by omega)]; omega
  obtain ⟨n8, hn8⟩ : ∃ n8, 8 * b.length = n8 := ⟨_, rfl⟩
  rw [hn8] at u2
  simp (maxSteps := 4000000) [List.getElem?_cons_zero, List.getElem?_cons_succ, c1, u1, u2]
  clear c1
  -- the length
  refine Post_loop (I := fun i : Nat => ⟨[(3, .sl (.ex 59 1) K), (4, .ms 59 1 σ.length 0 8), (5, .sl (.ex 5 1) ((L ++ lenB b.length i).map .u8)), (6, .int .u64 n8), (7, .int .i64 (7 - (i : Int)))], [], σ ++ [vInit.cs]⟩)
    (Pr := fun i => i ≤ 8) (μ := fun i => 8 - i) (a := 0) (by simp [lenB]) (by omega) ?_
  intro i hi
  obtain ⟨M, hM⟩ : ∃ M, L ++ lenB b.length i = M := ⟨_, rfl⟩
  have hMl : M.length = L.length + i := by rw [← hM]; simp [lenB]
  simp only [hM]
  by_cases hi8 : i < 8
  · obtain ⟨t, ht⟩ : ∃ t : Int, 7 - (i : Int) = t := ⟨_, rfl⟩
    have q4 : 0 ≤ t := by omega
    obtain ⟨j, hj⟩ : ∃ j, 56 - 8 * i = j := ⟨_, rfl⟩
    have e1 : IntKind.i64.wrap (8 * t) = (j : Int) := by rw [wrap64 (by omega)]; omega
    have e4 : IntKind.i64.wrap (t - 1) = t - 1 := wrap64 (by omega)
    have q5 : ¬ (j : Int) < 0 := by omega
    have q6 : min j 64 = j := by omega
    have q7 : M.length + 1 ≤ most := by unfold most; omega
    have hfin := lenB_succ b.length i
    rw [hj, hn8] at hfin
    simp only [ht]
    simp (maxSteps := 4000000) [List.getElem?_cons_zero, List.getElem?_cons_succ, q4, e1, e4, q5, q6, q7, IntKind.bits]
    refine ⟨i + 1, by omega, by omega, ?_, by omega⟩
    rw [hfin, ← hM]
    simp [b8_wrap]
  have hi8' : i = 8 := by omega
  subst hi8'
  have hT : laidB b = M := by rw [← hM, ← hL, hc]; rfl
  have hTl := laidB_len b
  rw [hT] at hTl
  have hv64 : (64 : Nat) ≤ most := by unfold most; omega
  simp (maxSteps := 4000000) [List.getElem?_cons_zero, List.getElem?_cons_succ, hv64]
  obtain ⟨N, hN⟩ : ∃ N, M.length / 64 = N := ⟨_, rfl⟩
  have hMN : M.length = 64 * N := by omega
  clear hpe hp64 hi hMl hM
  -- the blocks
  refine Post_loop (I := fun p : Nat × List Int => ⟨[(3, .sl (.ex 59 1) K), (4, .ms 59 1 σ.length 0 8), (5, .sl (.ex 5 1) (M.map .u8)), (8, .ms 59 1 (σ.length + 1) 0 64), (9, .int .i64 ((64 * p.1 : Nat) : Int))], [], σ ++ [(blocksV vInit M p.1).cs, p.2.map (.int .u32)]⟩)
    (Pr := fun p => p.1 ≤ N ∧ p.2.length = 64) (μ := fun p => N - p.1) (a := (0, List.replicate 64 0)) (by simp [blocksV]) (by simp) ?_
  rintro ⟨n, l⟩ ⟨hn, hll⟩
  simp only at hn hll ⊢
  obtain ⟨X, hX⟩ : ∃ X, blocksV vInit M n = X := ⟨_, rfl⟩
  obtain ⟨i1, i2, i3, i4⟩ := cs_facts X
  obtain ⟨m, hm⟩ : ∃ m, 64 * n = m := ⟨_, rfl⟩
  simp only [hX, hm]
  by_cases hc2 : n < N
  · have q1 : m < M.length := by omega
    obtain ⟨B, hB2⟩ : ∃ B, (M.drop m).take 64 = B := ⟨_, rfl⟩
    have hBl : B.length = 64 := by rw [← hB2]; simp; omega
    have hBg : ∀ j, j < 64 → M[m + j]? = B[j]? := by
      intro j hj
      rw [← hB2, List.getElem?_take, if_pos hj, List.getElem?_drop]
    have hstep : blocksV vInit M (n + 1) = blockV kConst X B := by rw [blocksV, hX, hm, hB2]
    simp (maxSteps := 4000000) [List.getElem?_cons_zero, List.getElem?_cons_succ, q1]
    -- sixteen words of the block
    refine Post_loop (I := fun j : Nat => ⟨[(3, .sl (.ex 59 1) K), (4, .ms 59 1 σ.length 0 8), (5, .sl (.ex 5 1) (M.map .u8)), (8, .ms 59 1 (σ.length + 1) 0 64), (9, .int .i64 m), (10, .int .i64 j)], [], σ ++ [X.cs, wc B l j]⟩)
      (Pr := fun j => j ≤ 16) (μ := fun j => 16 - j) (a := 0) (by simp [wc, sched]) (by omega) ?_
    intro j hj
    have hlen := wc_len B l j (by omega) hll
    have w1 : IntKind.i64.wrap ((j : Int) + 1) = (j : Int) + 1 := wrap64 (by omega)
    by_cases h16 : j < 16
    · obtain ⟨m4, hm4⟩ : ∃ m4, m + 4 * j = m4 := ⟨_, rfl⟩
      have e4 : IntKind.i64.wrap (4 * (j : Int)) = 4 * (j : Int) := wrap64 (by omega)
      have e5 : IntKind.i64.wrap ((m : Int) + 4 * (j : Int)) = (m4 : Int) := by rw [wrap64 (by omega)]; omega
      have e6 : IntKind.i64.wrap ((m4 : Int) + 1) = ((m4 + 1 : Nat) : Int) := by rw [wrap64 (by omega)]; omega
      have e7 : IntKind.i64.wrap ((m4 : Int) + 2) = ((m4 + 2 : Nat) : Int) := by rw [wrap64 (by omega)]; omega
      have e8 : IntKind.i64.wrap ((m4 : Int) + 3) = ((m4 + 3 : Nat) : Int) := by rw [wrap64 (by omega)]; omega
      obtain ⟨x0, hx0⟩ : ∃ x, M[m4]? = some x := ⟨_, List.getElem?_eq_getElem (by omega)⟩
      obtain ⟨x1, hx1⟩ : ∃ x, M[m4 + 1]? = some x := ⟨_, List.getElem?_eq_getElem (by omega)⟩
      obtain ⟨x2, hx2⟩ : ∃ x, M[m4 + 2]? = some x := ⟨_, List.getElem?_eq_getElem (by omega)⟩
      obtain ⟨x3, hx3⟩ : ∃ x, M[m4 + 3]? = some x := ⟨_, List.getElem?_eq_getElem (by omega)⟩
      have b0 := hBg (4 * j) (by omega)
      have b1 := hBg (4 * j + 1) (by omega)
      have b2 := hBg (4 * j + 2) (by omega)
      have b3 := hBg (4 * j + 3) (by omega)
      rw [hm4, hx0] at b0
      rw [← Nat.add_assoc, hm4, hx1] at b1
      rw [← Nat.add_assoc, hm4, hx2] at b2
      rw [← Nat.add_assoc, hm4, hx3] at b3
      have hset := wc_set B l j (wordAt B j) (by omega) hll (by rw [if_pos h16])
      have hw : wordAt B j = wor (wor (wor (IntKind.u32.wrap ((x0.toNat : Int) * 16777216)) (IntKind.u32.wrap ((x1.toNat : Int) * 65536))) (IntKind.u32.wrap ((x2.toNat : Int) * 256))) (x3.toNat : Int) := by
        simp [wordAt, byteI, List.getD, ← b0, ← b1, ← b2, ← b3]
      rw [hw] at hset
      have h63 : j ≤ 63 := by omega
      have h64 : j < 64 := by omega
      clear hw hBg b0 b1 b2 b3 hm4
      simp (maxSteps := 4000000) [List.getElem?_cons_zero, List.getElem?_cons_succ, -getElem?_pos, h16, h63, h64, e4, e5, e6, e7, e8, hx0, hx1, hx2, hx3, wrapU32_byte, hlen, w1, or_fold, IntKind.bits, hset]
      exact ⟨j + 1, by omega, by omega, by simp, rfl⟩
    have hj16 : j = 16 := by omega
    subst hj16
    clear hBg w1
    simp (maxSteps := 4000000) [List.getElem?_cons_zero, List.getElem?_cons_succ, List.getElem?_cons_zero]
    -- the words behind
    refine Post_loop (I := fun k : Nat => ⟨[(3, .sl (.ex 59 1) K), (4, .ms 59 1 σ.length 0 8), (5, .sl (.ex 5 1) (M.map .u8)), (8, .ms 59 1 (σ.length + 1) 0 64), (9, .int .i64 m), (12, .int .i64 k)], [], σ ++ [X.cs, wc B l k]⟩)
      (Pr := fun k => 16 ≤ k ∧ k ≤ 64) (μ := fun k => 64 - k) (a := 16) (by simp) (by omega) ?_
    rintro k ⟨hk1, hk2⟩
    have hlen2 := wc_len B l k (by omega) hll
    have w1 : IntKind.i64.wrap ((k : Int) + 1) = (k : Int) + 1 := wrap64 (by omega)
    by_cases h64 : k < 64
    · obtain ⟨m1, h1⟩ : ∃ m, k - 15 = m := ⟨_, rfl⟩
      obtain ⟨m2, h2⟩ : ∃ m, k - 2 = m := ⟨_, rfl⟩
      obtain ⟨m3, h3⟩ : ∃ m, k - 16 = m := ⟨_, rfl⟩
      obtain ⟨m4, h4⟩ : ∃ m, k - 7 = m := ⟨_, rfl⟩
      have e1 : IntKind.i64.wrap ((k : Int) - 15) = (m1 : Int) := by rw [wrap64 (by omega)]; omega
      have e2 : IntKind.i64.wrap ((k : Int) - 2) = (m2 : Int) := by rw [wrap64 (by omega)]; omega
      have e3 : IntKind.i64.wrap ((k : Int) - 16) = (m3 : Int) := by rw [wrap64 (by omega)]; omega
      have e4 : IntKind.i64.wrap ((k : Int) - 7) = (m4 : Int) := by rw [wrap64 (by omega)]; omega
      have g1 := wc_get B l k m1 (by omega)
      have g2 := wc_get B l k m2 (by omega)
      have g3 := wc_get B l k m3 (by omega)
      have g4 := wc_get B l k m4 (by omega)
      have l1 : m1 < 64 := by omega
      have l2 : m2 < 64 := by omega
      have l3 : m3 < 64 := by omega
      have l4 : m4 < 64 := by omega
      have r1 := fun σ x => (turns4 σ x).1
      have r2 := fun σ x => (turns4 σ x).2.1
      have r3 := fun σ x => (turns4 σ x).2.2.1
      have r4 := fun σ x => (turns4 σ x).2.2.2
      have hset := wc_set B l k (nextW (sched B k) k) h64 hll (by rw [if_neg (by omega)])
      unfold nextW sig0 sig1 at hset
      rw [h1, h2, h3, h4] at hset
      have h63 : k ≤ 63 := by omega
      generalize (sched B k).getD m1 0 = y1 at *
      generalize (sched B k).getD m2 0 = y2 at *
      generalize (sched B k).getD m3 0 = y3 at *
      generalize (sched B k).getD m4 0 = y4 at *
      clear h1 h2 h3 h4 hlen
      simp (maxSteps := 4000000) [List.getElem?_cons_zero, List.getElem?_cons_succ, -getElem?_pos, h64, h63, e1, e2, e3, e4, g1, g2, g3, g4, l1, l2, l3, l4, r1, r2, r3, r4, hlen2, w1, xor_fold, add_fold, IntKind.bits, hset]
      exact ⟨k + 1, ⟨by omega, by omega⟩, by omega, by simp, rfl⟩
    have hk64 : k = 64 := by omega
    subst hk64
    clear hlen hlen2 w1
    obtain ⟨W, hW⟩ : ∃ W, sched B 64 = W := ⟨_, rfl⟩
    have hWl : W.length = 64 := by rw [← hW, sched_len]
    have hwc : wc B l 64 = W.map (.int .u32) := by unfold wc; rw [hW, List.drop_of_length_le (by omega)]; simp
    rw [hwc]
    obtain ⟨Wc, hWc2⟩ : ∃ Wc, W.map (AV.int .u32) = Wc := ⟨_, rfl⟩
    rw [hWc2]
    have h8 : (8 : Nat) ≤ most := by unfold most; omega
    have hpl : allCells 1 X.cs := by
      intro c hc; simp [V8.cs] at hc; rcases hc with rfl | rfl | rfl | rfl | rfl | rfl | rfl | rfl <;> exact ⟨rfl, fun c h => by simp [AV.cells] at h; subst h; rfl⟩
    simp (maxSteps := 4000000) [List.getElem?_cons_zero, List.getElem?_cons_succ, i1, i2, i3, i4, h8, hpl]
    have hWn : ∀ n, n < 64 → Wc[n]? = some (.int .u32 (W.getD n 0)) := fun n hn => by rw [← hWc2]; exact list_get W n 64 hWl hn
    have hKn : ∀ n, n < 64 → K[n]? = some (.int .u32 (kConst.getD n 0)) := fun n hn => by rw [← hKK]; exact list_get kConst n 64 rfl hn
    have hWcl : Wc.length = 64 := by rw [← hWc2]; simpa using hWl
    have hbv : blockV kConst X B = addV (roundsV X kConst W 64) X := by unfold blockV; rw [hW]
    rw [hbv] at hstep
    -- the rounds
    refine Post_loop (I := fun k : Nat => ⟨[(3, .sl (.ex 59 1) K), (4, .ms 59 1 σ.length 0 8), (5, .sl (.ex 5 1) (M.map .u8)), (8, .ms 59 1 (σ.length + 1) 0 64), (9, .int .i64 m), (15, .sl (.ex 59 1) (roundsV X kConst W k).cs), (16, .int .i64 k)], [], σ ++ [X.cs, Wc]⟩)
      (Pr := fun k => k ≤ 64) (μ := fun k => 64 - k) (a := 0) (by simp [roundsV]) (by omega) ?_
    intro k hk
    obtain ⟨x, hx⟩ : ∃ x, roundsV X kConst W k = x := ⟨_, rfl⟩
    have hxc : x.cs = [.int .u32 x.a, .int .u32 x.b, .int .u32 x.c, .int .u32 x.d, .int .u32 x.e, .int .u32 x.f, .int .u32 x.g, .int .u32 x.h] := rfl
    by_cases hlt : k < 64
    · have g1 := hWn k hlt
      have g2 := hKn k hlt
      have hs1 : roundsV X kConst W (k + 1) = roundV x (kConst.getD k 0) (W.getD k 0) := by rw [roundsV, hx]
      obtain ⟨kk, hkk⟩ : ∃ kk, kConst.getD k 0 = kk := ⟨_, rfl⟩
      obtain ⟨w, hw⟩ : ∃ w, W.getD k 0 = w := ⟨_, rfl⟩
      rw [hw] at g1 hs1
      rw [hkk] at g2 hs1
      clear hWn hKn hkk hw hbv hstep hpl
      have q2 : k ≤ 63 := by omega
      have w1 : IntKind.i64.wrap ((k : Int) + 1) = (k : Int) + 1 := wrap64 (by omega)
      have r1 := fun σ x => (turns σ x).1
      have r2 := fun σ x => (turns σ x).2.1
      have r3 := fun σ x => (turns σ x).2.2.1
      have r4 := fun σ x => (turns σ x).2.2.2.1
      have r5 := fun σ x => (turns σ x).2.2.2.2.1
      have r6 := fun σ x => (turns σ x).2.2.2.2.2
      obtain ⟨Xc, hXc⟩ : ∃ Xc, X.cs = Xc := ⟨_, rfl⟩
      have hmax : IntKind.u32.max = 4294967295 := rfl
      have hnot : ∀ a, bits .xor .u32 4294967295 a = wnot a := fun a => rfl
      have hsg : IntKind.u32.signed = false := rfl
      simp only [hx, hxc, hXc]
      simp (maxSteps := 4000000) [List.getElem?_cons_zero, List.getElem?_cons_succ, -getElem?_pos, hlt, q2, g1, g2, hWcl, w1, r1, r2, r3, r4, r5, r6, hnot, hsg, hmax, xor_fold, and_fold, add_fold]
      exact ⟨k + 1, by omega, by omega, by rw [hs1]; rfl, by simp⟩
    have hk64 : k = 64 := by omega
    subst hk64
    rw [hx] at hstep
    simp only [hx]
    have hst2 : blocksV vInit M (n + 1) = addV X x := by rw [hstep, addV_comm]
    clear hWn hKn hbv hstep
    have hz := addC_zero X x
    rw [V8.cs_eq] at hz
    obtain ⟨xc, hxc2⟩ : ∃ xc, x.cs = xc := ⟨_, rfl⟩
    have hxs : (x.l.map (AV.int .u32)) = xc := hxc2
    have hxcl : xc.length = 8 := by rw [← hxc2]; rfl
    simp only [hxc2]
    simp (maxSteps := 4000000) [List.getElem?_cons_zero, List.getElem?_cons_succ, hWcl]
    -- the sums
    refine Post_loop (I := fun j : Nat => ⟨[(3, .sl (.ex 59 1) K), (4, .ms 59 1 σ.length 0 8), (5, .sl (.ex 5 1) (M.map .u8)), (8, .ms 59 1 (σ.length + 1) 0 64), (9, .int .i64 m), (15, .sl (.ex 59 1) xc), (22, .int .i64 j)], [], σ ++ [addC X x j, Wc]⟩)
      (Pr := fun j => j ≤ 8) (μ := fun j => 8 - j) (a := 0) (by simp [hz]) (by omega) ?_
    intro j hj
    have hl8 := addC_len X x j
    by_cases hj8 : j < 8
    · obtain ⟨y, z, e1, e2, e3⟩ := addC_step X x j hj8
      rw [hxs] at e2
      have q2 : j ≤ 7 := by omega
      have w1 : IntKind.i64.wrap ((j : Int) + 1) = (j : Int) + 1 := wrap64 (by omega)
      simp (maxSteps := 4000000) [List.getElem?_cons_zero, List.getElem?_cons_succ, -getElem?_pos, q2, hj8, e1, e2, hl8, hxcl, w1, add_fold, e3]
      exact ⟨j + 1, by omega, by omega, by simp, rfl⟩
    have hj8' : j = 8 := by omega
    subst hj8'
    have w1 : IntKind.i64.wrap ((m : Int) + 64) = (m : Int) + 64 := wrap64 (by omega)
    have hce := addC_end X x
    rw [V8.cs_eq, ← hst2] at hce
    simp only [hce]
    simp (maxSteps := 4000000) [List.getElem?_cons_zero, List.getElem?_cons_succ, w1]
    refine ⟨n + 1, W, ⟨by omega, hWl⟩, by omega, by omega, by simp, hWc2.symm⟩
  · have hnN : n = N := by omega
    subst hnN
    have q1 : ¬ m < M.length := by omega
    simp (maxSteps := 4000000) [List.getElem?_cons_zero, List.getElem?_cons_succ, q1]
    -- what is handed back
    obtain ⟨S0, hSe⟩ : ∃ S, σ ++ [X.cs, l.map (AV.int .u32)] = S := ⟨_, rfl⟩
    have hX0 : S0[σ.length]? = some X.cs := by rw [← hSe]; simp
    have hS0 : S0.take σ.length = σ := by rw [← hSe]; simp
    have hX1 : σ.length < S0.length := by rw [← hSe]; simp
    have hz0 : (0 : Nat) ≤ most := Nat.zero_le _
    rw [hSe]
    refine Post_loop (I := fun p : AV × List (List AV) × Nat => ⟨[(4, .ms 59 1 σ.length 0 8), (23, p.1), (24, .int .i64 p.2.2)], [], p.2.1⟩)
      (Pr := fun p => p.2.2 ≤ 8 ∧ p.2.1[σ.length]? = some X.cs ∧ p.2.1.take σ.length = σ ∧ ((p.2.2 = 0 ∧ p.1 = .sl (.ex 5 1) [] ∧ p.2.1 = S0) ∨ (0 < p.2.2 ∧ ∃ c, p.1 = .ms 5 1 c 0 (4 * p.2.2) ∧ p.2.1[c]? = some (((X.l.take p.2.2).flatMap out4).map .u8) ∧ σ.length < c))) (μ := fun p => 8 - p.2.2) (a := (.sl (.ex 5 1) [], S0, 0)) (by simp) ⟨by simp, hX0, hS0, .inl ⟨rfl, rfl, rfl⟩⟩ ?_
    rintro ⟨v, S, j⟩ ⟨hj, hSX, hSt, hv⟩
    simp only at hj hSX hSt hv ⊢
    obtain ⟨R, hR⟩ : ∃ R, (X.l.take j).flatMap out4 = R := ⟨_, rfl⟩
    have hlen : ∀ l : List Int, (l.flatMap out4).length = 4 * l.length := by
      intro l
      induction l with
      | nil => rfl
      | cons a r ih => rw [List.flatMap_cons, List.length_append, ih]; simp [out4]; omega
    have hRl : R.length = 4 * j := by rw [← hR, hlen]; simp [V8.l]; omega
    have hslt : σ.length < S.length := (List.getElem?_eq_some_iff.1 hSX).1
    rw [hR] at hv
    by_cases hj8 : j < 8
    · have q2 : j ≤ 7 := by omega
      have g := cs_get X j hj8
      obtain ⟨w, hw⟩ : ∃ v, X.l.getD j 0 = v := ⟨_, rfl⟩
      have hfin := out_succ X j hj8
      rw [hw, hR] at hfin
      have e4 : IntKind.i64.wrap ((j : Int) + 1) = (j : Int) + 1 := wrap64 (by omega)
      have q7 : 4 * j + 4 ≤ most := by unfold most; omega
      have q4 : (4 : Nat) ≤ most := by unfold most; omega
      have hj4 : 4 * (j + 1) = 4 * j + 4 := by omega
      rcases hv with ⟨rfl, rfl, rfl⟩ | ⟨hj0, c, rfl, hc, hcl⟩
      · have hR0 : R = [] := List.eq_nil_of_length_eq_zero (by omega)
        subst hR0
        simp (maxSteps := 4000000) [List.getElem?_cons_zero, List.getElem?_cons_succ, -getElem?_pos, -Prod.exists, -regionA_true, hSX]
        refine Post_bndD [] _ (by rfl) (by simp (maxSteps := 4000000) [List.getElem?_cons_zero, List.getElem?_cons_succ, ]; exact rfl) ?_
        repeat (first
          | refine PostD_go _ (by rfl) (by rfl) (by simp (maxSteps := 4000000) [List.getElem?_cons_zero, List.getElem?_cons_succ, -getElem?_pos, hSX, g, i1, q4, IntKind.bits]; exact rfl) (by first | exact .inl rfl | exact .inr rfl) (by rfl) ?_
          | refine PostD_no1 _ (by rfl) (by rfl) (by simp (maxSteps := 4000000) [List.getElem?_cons_zero, List.getElem?_cons_succ, ]; exact rfl) ?_)
        refine PostD_end ?_
        simp (maxSteps := 4000000) [List.getElem?_cons_zero, List.getElem?_cons_succ, -Prod.exists]
        -- draft, not built: the goal is ∃ y, (Pr y) ∧ 8 - y.2.2 < 8 ∧ (box = y.1 ∧ wrap 1 = y.2.2) ∧ S ++ [[four bytes of X.l[0]?.getD 0]] = y.2.1
        have w1 : IntKind.i64.wrap 1 = 1 := by decide
        refine ⟨(_, _, 1), ?_, ?_, ⟨rfl, w1⟩, rfl⟩
        · refine ⟨by simp, ?_, ?_, .inr ⟨by simp, S.length, rfl, ?_, hslt⟩⟩
          · show (S ++ _)[σ.length]? = _
            rw [List.getElem?_append_left hslt]; exact hSX
          · show (S ++ _).take σ.length = σ
            rw [List.take_append_of_le_length (by omega)]; exact hSt
          · show (S ++ _)[S.length]? = _
            rw [List.getElem?_append_right (Nat.le_refl _), Nat.sub_self]
            have : ((X.l.take (0 + 1)).flatMap out4) = out4 w := by simpa using hfin
            rw [show (0 + 1 : Nat) = 1 from rfl] at this
            rw [this]
            simp [out4, b8_wrap, ← hw]
        · simp
      · simp (maxSteps := 4000000) [List.getElem?_cons_zero, List.getElem?_cons_succ, -getElem?_pos, -Prod.exists, -regionA_true, hj8]
        refine Post_bndD [] _ (by rfl) (by simp (maxSteps := 4000000) [List.getElem?_cons_zero, List.getElem?_cons_succ, ]; exact rfl) ?_
        repeat (first
          | refine PostD_go _ (by rfl) (by rfl) (by simp (maxSteps := 4000000) [List.getElem?_cons_zero, List.getElem?_cons_succ, -getElem?_pos, hSX, hc, hj8, q2, g, i1, q7, hj0, hRl, IntKind.bits]; exact rfl) (by first | exact .inl rfl | exact .inr rfl) (by rfl) ?_
          | refine PostD_no1 _ (by rfl) (by rfl) (by simp (maxSteps := 4000000) [List.getElem?_cons_zero, List.getElem?_cons_succ, ]; exact rfl) ?_)
        refine PostD_end ?_
        simp (maxSteps := 4000000) [List.getElem?_cons_zero, List.getElem?_cons_succ, -Prod.exists, e4]
        -- draft, not built: the same, with S.set c [] ++ [R's bytes ++ four bytes]
        refine ⟨(_, _, j + 1), ?_, ?_, ⟨rfl, by simp⟩, rfl⟩
        · refine ⟨by show j + 1 ≤ 8; omega, ?_, ?_, .inr ⟨by show 0 < j + 1; omega, S.length, ?_, ?_, hslt⟩⟩
          · show (S.set c [] ++ _)[σ.length]? = _
            rw [List.getElem?_append_left (by simpa using hslt), List.getElem?_set_ne (by omega)]; exact hSX
          · show (S.set c [] ++ _).take σ.length = σ
            rw [List.take_append_of_le_length (by simp; omega), List.take_set_of_le (by omega)]; exact hSt
          · show AV.ms _ 1 S.length 0 (4 * j + 4) = AV.ms _ 1 S.length 0 (4 * (j + 1)); rw [hj4]
          · show (S.set c [] ++ _)[S.length]? = _
            rw [List.getElem?_append_right (by simp)]
            have hw' : X.l[j]?.getD 0 = w := by rw [← hw, List.getD_eq_getElem?_getD]
            simp [hfin, out4, b8_wrap, hw']
        · show 8 - (j + 1) < 8 - j; omega
    · have hj8' : j = 8 := by omega
      subst hj8'
      have hfin : sha256 b = R := by
        rw [sha256_laid, hT, hN, hX, ← hR]
        rfl
      rcases hv with ⟨h0, _⟩ | ⟨_, c, rfl, hc, hcl⟩
      · cases h0
      · simp (maxSteps := 4000000) [List.getElem?_cons_zero, List.getElem?_cons_succ, Tryz.results33]
        exact ⟨_, _, ⟨rfl, rfl⟩, c, S, rfl, by rw [hfin]; exact hc, hSt, Nat.le_of_lt hcl⟩
end Go.Proofs.Tryz.Ai
end
section
/- The document's Sign. -/
namespace Go.AI
section
variable {P : Program} {h : Hint} {C : Oracle}
theorem PostD_no1 {ds : List Nat} {ops r : List Oper} {st : St} {o : Oper} {K : St → Prop} (st1 : St) (hw : wantedA ops o.guard st = some false) (hq : okAll ds st.t (tkT h o).toList = true)
    (hs : st.put o.dst (.tup []) = st1) (k : PostD (runD P h C ds ops r st1) K) : PostD (runD P h C ds ops (o :: r) st) K := PostD_no hw hq (by rw [hs]; exact k)
end
end Go.AI
namespace Go.Proofs.Tryz.Ai
open Go Go.AI Go.Proofs Go.B64
set_option maxHeartbeats 4000000
set_option maxRecDepth 4000
set_option linter.unusedVariables false

theorem IDM_eq (n s : List UInt8) (hn : n.length ≤ 2 ^ 20) (hs : s.length ≤ 2 ^ 20) (σ : List (List AV)) : ev (100000 + 32) [rkeyAV n s] σ = some (.sl (.ex 5 1) (((idH n (sha256 s)).take 4).map .u8), σ) := by
  have hS := rSHA256_eq .sh s (by omega)
  have hl := sha256_len s
  obtain ⟨X, hX⟩ : ∃ X, sha256 s = X := ⟨_, rfl⟩
  rw [hX] at hS hl
  obtain ⟨c, S, h1, h2, h3, h4⟩ := rSHA256M_eq .sh (n ++ [10, 1] ++ X) (by simp; omega) σ
  have hl2 := idH_len n X
  unfold idH rkeyAV at *
  rw [hX]
  have hnm : n.length ≤ most := by unfold most; omega
  have q1 : n.length + 2 ≤ most := by unfold most; omega
  have q2 : n.length + 2 + X.length ≤ most := by unfold most; omega
  have q3 : n.length + (X.length + 2) ≤ most := by unfold most; omega
  have q4 : n.length + (X.length + 1 + 1) ≤ most := by unfold most; omega
  obtain ⟨Y, hY⟩ : ∃ Y, sha256 (n ++ [10, 1] ++ X) = Y := ⟨_, rfl⟩
  rw [hY] at h2 hl2 ⊢
  simp only [List.map_append, List.map_cons, List.map_nil, AV.u8, show ((UInt8.toNat 10 : Nat) : Int) = 10 from rfl, show ((UInt8.toNat 1 : Nat) : Int) = 1 from rfl] at h1
  have hY4 : 4 ≤ Y.length := by omega
  have hdm : (Y.map AV.u8).map dem = Y.map AV.u8 := by rw [List.map_map]; rfl
  obtain ⟨V, hV⟩ : ∃ V, Y.map AV.u8 = V := ⟨_, rfl⟩
  have hVl : V.length = 32 := by rw [← hV]; simpa using hl2
  have hfin : (Y.take 4).map AV.u8 = V.take 4 := by rw [← hV, List.map_take]
  rw [hV] at h2 hdm
  rw [hfin]
  have hd4 : (V.take 4).map dem = V.take 4 := by rw [List.map_take, hdm]
  have hlw : lowS σ (S.set c []) := fun b hb => .inl (by
    rw [List.getElem?_set_ne (by omega)]
    have := congrArg (fun l : List (List AV) => l[b]?) h3
    simp only [List.getElem?_take, if_pos hb] at this
    exact this)
  have htk : (S.set c []).take σ.length = σ := by rw [List.take_set_of_le h4]; exact h3
  have hlv : ∀ m, lowL m (V.take 4) := by
    intro m
    rw [← hfin]
    induction Y.take 4 with
    | nil => trivial
    | cons a r ih => exact ⟨trivial, ih⟩
  have hnd : lowL σ.length (V.take 4) ∧ lowS σ (S.set c []) := ⟨hlv _, hlw⟩
  refine EV_post rfl Tryz.func32 rfl (by simp [Tryz.ntmps32]) (by kernel_rfl) (by kernel_rfl) ?_
  simp (maxSteps := 4000000) [List.getElem?_cons_zero, List.getElem?_cons_succ, -List.append_assoc, hS, h1, hnm, q1, q2, q3, q4, hY4, h2, hVl, h4, hdm, htk, need_of hnd, Tryz.results32]
theorem sameK_h (x k : List UInt8 × List UInt8) : sameK (hK x) (hK k) = (x.1 == k.1 && idN (idH x.1 (sha256 x.2)) == idN (idH k.1 (sha256 k.2))) := rfl
theorem rSign_eq (text : List UInt8) (K : List (List UInt8 × List UInt8)) (ht : text.length ≤ 2 ^ 24) (hKl : K.length ≤ 2 ^ 10) (hk : ∀ k ∈ K, k.1.length ≤ 2 ^ 20 ∧ k.2.length ≤ 2 ^ 20) (σ : List (List AV)) :
    ev 8 [.str text, .sl .sh (K.map rkeyF)] σ = some (.tup [.str (sgn text (K.map hK)).1, .int .i64 (sgn text (K.map hK)).2], σ) := by
  have hV := rbody_eq text (by omega)
  refine EV_post rfl Tryz.func8 rfl (by simp [Tryz.ntmps8]) (by kernel_rfl) (by kernel_rfl) ?_
  by_cases h1 : textP text = false
  · have hR : sgn text (K.map hK) = ([], 15) := by unfold sgn; rw [if_pos h1]
    simp (maxSteps := 4000000) [List.getElem?_cons_zero, List.getElem?_cons_succ, hV, h1, hR, Tryz.results8]
  have h1' : textP text = true := by simpa using h1
  by_cases h2 : 65536 < text.length
  · have hR : sgn text (K.map hK) = ([], 13) := by unfold sgn; rw [if_neg h1, if_pos h2]
    simp (maxSteps := 4000000) [List.getElem?_cons_zero, List.getElem?_cons_succ, hV, h1', h2, hR, Tryz.results8]
  simp (maxSteps := 4000000) [List.getElem?_cons_zero, List.getElem?_cons_succ, hV, h1', h2]
  refine Post_loop (I := fun i : Nat => ⟨[(0, .str text), (1, .sl .sh (K.map rkeyF)), (7, .int .i64 i)], [], σ⟩)
    (Pr := fun i => i ≤ K.length ∧ (∀ j k, j < i → K[j]? = some k → ((K.map hK).take j).any (fun x => sameK x (hK k)) = false)) (μ := fun i => K.length - i) (a := 0) (by simp) (by simp) ?_
  rintro i ⟨hi, hd⟩
  have w1 : ∀ n : Nat, n ≤ 1024 → IntKind.i64.wrap ((n : Int) + 1) = (n : Int) + 1 := fun n h => wrap64 (by omega)
  have w1i := w1 i (by omega)
  by_cases hc : i < K.length
  · obtain ⟨k, hx⟩ : ∃ k, K[i]? = some k := ⟨_, List.getElem?_eq_getElem hc⟩
    have hkk := hk k (List.mem_of_getElem? hx)
    have hNk := Number_eq k.1 k.2 hkk.1 hkk.2
    simp (maxSteps := 4000000) [List.getElem?_cons_zero, List.getElem?_cons_succ, -getElem?_pos, -Prod.forall, hc]
    refine Post_loop (I := fun j : Nat => ⟨[(0, .str text), (1, .sl .sh (K.map rkeyF)), (7, .int .i64 i), (8, .int .i64 j)], [], σ⟩)
      (Pr := fun j => j ≤ i ∧ ((K.map hK).take j).any (fun x => sameK x (hK k)) = false) (μ := fun j => i - j) (a := 0) (by simp) (by simp) ?_
    rintro j ⟨hj, hn⟩
    have w1j := w1 j (by omega)
    by_cases hcj : j < i
    · obtain ⟨x, hy⟩ : ∃ x, K[j]? = some x := ⟨_, List.getElem?_eq_getElem (by omega)⟩
      have hxx := hk x (List.mem_of_getElem? hy)
      have hNx := Number_eq x.1 x.2 hxx.1 hxx.2
      have hjl : j < K.length := by omega
      have hnn : ((K.map hK).take (j + 1)).any (fun x => sameK x (hK k)) = sameK (hK x) (hK k) := by rw [List.take_add_one, List.getElem?_map, hy, List.any_append, hn]; simp
      have hsm := sameK_h x k
      have hdup : sameK (hK x) (hK k) = true → dupK (K.map hK) = true := fun h => dupK_at (i := i) (k := hK k) (by rw [List.getElem?_map, hx]; rfl) (by
        exact List.any_eq_true.2 ⟨hK x, List.mem_of_getElem? (i := j) (by rw [List.getElem?_take, if_pos hcj, List.getElem?_map, hy]; rfl), h⟩)
      obtain ⟨NX, hNX⟩ : ∃ N, idN (idH x.1 (sha256 x.2)) = N := ⟨_, rfl⟩
      obtain ⟨NK, hNK⟩ : ∃ N, idN (idH k.1 (sha256 k.2)) = N := ⟨_, rfl⟩
      rw [hNX] at hNx hsm
      rw [hNK] at hNk hsm
      obtain ⟨sk, hsk⟩ : ∃ b, sameK (hK x) (hK k) = b := ⟨_, rfl⟩
      rw [hsk] at hnn hsm hdup
      obtain ⟨k1, k2⟩ := k
      obtain ⟨x1, x2⟩ := x
      simp only at hNk hNx hsm
      unfold rkeyAV at hNk hNx
      by_cases e1 : x1 = k1
      · have e1' : (x1 == k1) = true := by simpa using e1
        by_cases e2 : NX = NK
        · have e2' : (NX == NK) = true := by simpa using e2
          rw [e1', e2'] at hsm
          have hR : sgn text (K.map hK) = ([], 20) := by unfold sgn; rw [if_neg h1, if_neg h2, if_pos (hdup hsm)]
          simp (maxSteps := 4000000) [List.getElem?_cons_zero, List.getElem?_cons_succ, -getElem?_pos, -Prod.forall, -regionA_true, hcj]
          refine Post_bndD [] _ (by rfl) (by simp (maxSteps := 4000000) [List.getElem?_cons_zero, List.getElem?_cons_succ, ]; exact rfl) ?_
          repeat (first
            | refine PostD_go _ (by rfl) (by rfl) (by simp (maxSteps := 4000000) [List.getElem?_cons_zero, List.getElem?_cons_succ, -getElem?_pos, -Prod.forall, hc, hjl, hx, hy, rkeyFx, hNk, hNx, e1', eq_true e2]; exact rfl) (by first | exact .inl rfl | exact .inr rfl) (by rfl) ?_
            | refine PostD_no1 _ (by rfl) (by rfl) (by simp (maxSteps := 4000000) [List.getElem?_cons_zero, List.getElem?_cons_succ, ]; exact rfl) ?_)
          refine PostD_end ?_
          simp (maxSteps := 4000000) [List.getElem?_cons_zero, List.getElem?_cons_succ, hR, Tryz.results8]
        · have e2' : (NX == NK) = false := by simpa using e2
          rw [e1', e2'] at hsm
          simp (maxSteps := 4000000) [List.getElem?_cons_zero, List.getElem?_cons_succ, -getElem?_pos, -Prod.forall, -regionA_true, hcj]
          refine Post_bndD [] _ (by rfl) (by simp (maxSteps := 4000000) [List.getElem?_cons_zero, List.getElem?_cons_succ, ]; exact rfl) ?_
          repeat (first
            | refine PostD_go _ (by rfl) (by rfl) (by simp (maxSteps := 4000000) [List.getElem?_cons_zero, List.getElem?_cons_succ, -getElem?_pos, -Prod.forall, hc, hjl, hx, hy, rkeyFx, hNk, hNx, e1', e2]; exact rfl) (by first | exact .inl rfl | exact .inr rfl) (by rfl) ?_
            | refine PostD_no1 _ (by rfl) (by rfl) (by simp (maxSteps := 4000000) [List.getElem?_cons_zero, List.getElem?_cons_succ, ]; exact rfl) ?_)
          refine PostD_end ?_
          simp (maxSteps := 4000000) [List.getElem?_cons_zero, List.getElem?_cons_succ, -Prod.forall, w1j]
          refine ⟨j + 1, ⟨by omega, ?_⟩, by omega, by simp⟩
          have := hnn
          rw [hsm] at this
          simpa [-Prod.forall] using this
      · have e1' : (x1 == k1) = false := by simpa using e1
        rw [e1'] at hsm
        simp (maxSteps := 4000000) [List.getElem?_cons_zero, List.getElem?_cons_succ, -getElem?_pos, -Prod.forall, -regionA_true, hcj]
        refine Post_bndD [] _ (by rfl) (by simp (maxSteps := 4000000) [List.getElem?_cons_zero, List.getElem?_cons_succ, ]; exact rfl) ?_
        repeat (first
          | refine PostD_go _ (by rfl) (by rfl) (by simp (maxSteps := 4000000) [List.getElem?_cons_zero, List.getElem?_cons_succ, -getElem?_pos, -Prod.forall, hc, hjl, hx, hy, rkeyFx, e1']; exact rfl) (by first | exact .inl rfl | exact .inr rfl) (by rfl) ?_
          | refine PostD_no1 _ (by rfl) (by rfl) (by simp (maxSteps := 4000000) [List.getElem?_cons_zero, List.getElem?_cons_succ, ]; exact rfl) ?_)
        refine PostD_end ?_
        simp (maxSteps := 4000000) [List.getElem?_cons_zero, List.getElem?_cons_succ, -Prod.forall, w1j]
        refine ⟨j + 1, ⟨by omega, ?_⟩, by omega, by simp⟩
        have := hnn
        rw [hsm] at this
        simpa [-Prod.forall] using this
    · have hji : j = i := by omega
      subst hji
      simp (maxSteps := 4000000) [List.getElem?_cons_zero, List.getElem?_cons_succ, -Prod.forall, w1i]
      refine ⟨j + 1, ⟨by omega, fun j' k' hj' hk' => ?_⟩, by omega, by simp⟩
      rcases (by omega : j' < j ∨ j' = j) with h | rfl
      · simpa [-Prod.forall] using hd j' k' h hk'
      · rw [hx] at hk'; injection hk' with hk'; subst hk'; simpa [-Prod.forall] using hn
  have hdup : dupK (K.map hK) = false := dupK_no fun i' k' hk' => by
    rw [List.getElem?_map] at hk'
    cases hq : K[i']? with
    | none => rw [hq] at hk'; cases hk'
    | some k =>
      rw [hq] at hk'
      injection hk' with hk'
      subst hk'
      exact hd i' k (by have := (List.getElem?_eq_some_iff.1 hq).1; omega) hq
  by_cases h3 : K.length = 0
  · have hR : sgn text (K.map hK) = ([], 20) := by unfold sgn; rw [if_neg h1, if_neg h2, hdup, if_neg (by simp), if_pos (by simpa using h3)]
    simp (maxSteps := 4000000) [List.getElem?_cons_zero, List.getElem?_cons_succ, hc, h3, hR, Tryz.results8]
  by_cases h4 : 8 < K.length
  · have hR : sgn text (K.map hK) = ([], 14) := by unfold sgn; rw [if_neg h1, if_neg h2, hdup, if_neg (by simp), if_neg (by simpa using h3), if_pos (by simpa using h4)]
    simp (maxSteps := 4000000) [List.getElem?_cons_zero, List.getElem?_cons_succ, hc, h3, h4, hR, Tryz.results8]
  have hR : sgn text (K.map hK) = (text ++ [10] ++ (K.map hK).flatMap (signLine text), 0) := by unfold sgn; rw [if_neg h1, if_neg h2, hdup, if_neg (by simp), if_neg (by simpa using h3), if_neg (by simpa using h4)]
  have m1 : text.length + 1 ≤ most := by unfold most; omega
  simp (maxSteps := 4000000) [List.getElem?_cons_zero, List.getElem?_cons_succ, -Prod.forall, hc, h3, h4, m1]
  have hflat : ∀ n, n ≤ K.length → (((K.map hK).take n).flatMap (signLine text)).length ≤ 2 ^ 10 * (2 ^ 20 + 54) := by
    intro n hn
    have h5 := flat_len text ((K.map hK).take n) (fun k hk' => by
      obtain ⟨y, hy, rfl⟩ := List.mem_map.1 (List.mem_of_mem_take hk')
      exact (hk y hy).1)
    have h6 : ((K.map hK).take n).length * (2 ^ 20 + 54) ≤ 2 ^ 10 * (2 ^ 20 + 54) := Nat.mul_le_mul_right _ (by simp; omega)
    exact Nat.le_trans h5 h6
  refine Post_loop (I := fun p : Nat × List UInt8 => ⟨[(0, .str text), (1, .sl .sh (K.map rkeyF)), (9, .str p.2), (10, .int .i64 p.1)], [], σ⟩)
    (Pr := fun p => p.1 ≤ K.length ∧ p.2 = text ++ [10] ++ ((K.map hK).take p.1).flatMap (signLine text)) (μ := fun p => K.length - p.1) (a := (0, text ++ [10])) (by simp) (by simp) ?_
  rintro ⟨i, q⟩ ⟨hi, hq⟩
  simp only at hi hq ⊢
  have w2 := w1 i (by omega)
  by_cases hc : i < K.length
  · obtain ⟨k, hx⟩ : ∃ k, K[i]? = some k := ⟨_, List.getElem?_eq_getElem hc⟩
    have hkk := hk k (List.mem_of_getElem? hx)
    have hq' : text ++ [10] ++ ((K.map hK).take (i + 1)).flatMap (signLine text) = q ++ signLine text (hK k) := by
      rw [hq, List.take_add_one, List.getElem?_map, hx, List.flatMap_append]; simp
    have hql : (q ++ signLine text (hK k)).length ≤ 2 ^ 24 + 1 + 2 ^ 10 * (2 ^ 20 + 54) := by
      rw [← hq']
      have := hflat (i + 1) (by omega)
      simp only [List.length_append, List.length_cons, List.length_nil]
      omega
    have hI := IDM_eq k.1 k.2 hkk.1 hkk.2
    have hSg := Sig_eq k.1 k.2 text hkk.2 ht
    have hsl := sigH_len (sha256 k.2) text
    have hHl := idH_len k.1 (sha256 k.2)
    have hsign : signLine text (hK k) = dashB ++ k.1 ++ [32] ++ b64 ((idH k.1 (sha256 k.2)).take 4 ++ sigH (sha256 k.2) text) ++ [10] := rfl
    obtain ⟨k1, k2⟩ := k
    simp only at hI hSg hsl hHl hsign hkk
    obtain ⟨SG, hSG⟩ : ∃ s, sigH (sha256 k2) text = s := ⟨_, rfl⟩
    obtain ⟨HH, hHH⟩ : ∃ s, (idH k1 (sha256 k2)).take 4 = s := ⟨_, rfl⟩
    have hHl4 : HH.length = 4 := by rw [← hHH]; simp; omega
    rw [hSG] at hSg hsl hsign
    rw [hHH] at hI hsign
    have hB := rBase64_eq (HH ++ SG) (by simp; omega)
    have hBl := b64_len (HH ++ SG)
    obtain ⟨BB, hBB⟩ : ∃ B, b64 (HH ++ SG) = B := ⟨_, rfl⟩
    rw [hBB] at hB hBl hsign
    rw [List.map_append] at hB
    have hBl' : BB.length ≤ 60 := by rw [hBl]; simp; omega
    obtain ⟨M, hM⟩ : ∃ M, signLine text (hK (k1, k2)) = M := ⟨_, rfl⟩
    rw [hM] at hq' hsign hql
    have hql2 : q.length ≤ 2 ^ 24 + 1 + 2 ^ 10 * (2 ^ 20 + 54) := by simp at hql; omega
    have c1 : q.length + 4 ≤ most := by unfold most; omega
    have c2 : q.length + 4 + k1.length ≤ most := by unfold most; omega
    have c3 : q.length + 4 + k1.length + 1 ≤ most := by unfold most; omega
    have c4 : q.length + 4 + k1.length + 1 + BB.length ≤ most := by unfold most; omega
    have c5 : q.length + 4 + k1.length + 1 + BB.length + 1 ≤ most := by unfold most; omega
    have c6 : HH.length + SG.length ≤ most := by unfold most; omega
    have hfin : q ++ [226, 128, 148, 32] ++ k1 ++ [32] ++ BB ++ [10] = q ++ M := by rw [hsign]; simp [dashB]
    unfold rkeyAV at hI hSg
    simp (maxSteps := 4000000) [List.getElem?_cons_zero, List.getElem?_cons_succ, -getElem?_pos, -Prod.forall, -regionA_true, hc]
    refine Post_bndD [] _ (by rfl) (by simp (maxSteps := 4000000) [List.getElem?_cons_zero, List.getElem?_cons_succ, ]; exact rfl) ?_
    repeat (first
      | refine PostD_go _ (by rfl) (by rfl) (by simp (maxSteps := 4000000) [List.getElem?_cons_zero, List.getElem?_cons_succ, -getElem?_pos, -Prod.forall, -List.append_assoc, hc, hx, rkeyFx, hI, hSg, hB, c1, c2, c3, c4, c5, c6]; exact rfl) (by first | exact .inl rfl | exact .inr rfl) (by rfl) ?_
      | refine PostD_no1 _ (by rfl) (by rfl) (by simp (maxSteps := 4000000) [List.getElem?_cons_zero, List.getElem?_cons_succ, ]; exact rfl) ?_)
    refine PostD_end ?_
    simp (maxSteps := 4000000) [List.getElem?_cons_zero, List.getElem?_cons_succ, -Prod.exists, -Prod.forall, -List.append_assoc, w2, hfin]
    exact ⟨(i + 1, q ++ M), ⟨by simp; omega, by show q ++ M = _; rw [← hq']; simp⟩, by simp; omega, by simp⟩
  · have hiK : i = K.length := by omega
    rw [hiK, List.take_of_length_le (by simp)] at hq
    rw [← hq] at hR
    simp (maxSteps := 4000000) [List.getElem?_cons_zero, List.getElem?_cons_succ, hc, hR, Tryz.results8]
end Go.Proofs.Tryz.Ai
end
