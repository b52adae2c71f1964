/- Part 6 of a proof: a Go function is evaluated on abstract values (texts M7 .. S20); no conditions beyond those of each theorem. -/
import Derived.Test.YtoofpdaplnjmdaaGreatDoorAi5
set_option linter.all false
set_option linter.unusedVariables false
set_option linter.unusedSimpArgs false
set_option linter.unnecessarySimpa false
section
/- mod: paths. -/
namespace Go.Proofs.Tryz.Ai
open Go Go.AI Go.Proofs
set_option maxHeartbeats 2000000
set_option linter.unusedVariables false

theorem lixI_eq (c : UInt8) (l : List UInt8) : lixI c l = match lix c l with
  | some n => (n : Int)
  | none => -1 := rfl
theorem SplitMajor_eq (p : List UInt8) (hp : p.length ≤ 2 ^ 30) (σ) : ev 168 [.str p] σ = some (.tup [.str (splitMB p).1, .int .i64 (splitMB p).2], σ) := by
  have h1 := LastIndex1_eq p (by omega) 47
  refine EV_post rfl Tryz.func168 rfl (by simp [Tryz.ntmps168]) (by kernel_rfl) (by kernel_rfl) ?_
  cases hx : lix 47 p with
  | none =>
    have e1 : lixI 47 p = -1 := by simp [lixI, hx]
    have e2 : splitMB p = (p, 0) := by simp [splitMB, hx]
    simp (maxSteps := 4000000) [List.getElem?_cons_zero, List.getElem?_cons_succ, h1, e1, e2, Tryz.results168]
  | some i =>
    have e1 : lixI 47 p = i := by simp [lixI, hx]
    have hi := (lix_some hx).1
    obtain ⟨q, hq⟩ : ∃ q, p.drop (i + 1) = q := ⟨_, rfl⟩
    have hql : q.length ≤ 2 ^ 30 := by rw [← hq]; simp; omega
    have w1 : IntKind.i64.wrap ((i : Int) + 1) = (i : Int) + 1 := wrap64 (by omega)
    have w2 : i + 1 ≤ p.length := by omega
    have w3 : i ≤ p.length := by omega
    have h2 := CutPrefix_eq q [118] (by omega) (by simp)
    have e2 : splitMB p = match majB q with
        | none => (p, 0)
        | some n => (p.take i, n) := by unfold splitMB; rw [hx]; simp only [hq]; cases majB q <;> rfl
    cases q with
    | nil =>
      have h3 := number_eq [] (by simp)
      have h4 : numB [] = none := by simp [numB, numOk, allB]
      have h6 : majB [] = none := rfl
      rw [h4] at h3
      rw [h6] at e2
      simp only [List.isPrefixOf, Bool.false_eq_true, if_false] at h2
      simp only at e2
      simp (maxSteps := 4000000) [List.getElem?_cons_zero, List.getElem?_cons_succ, h1, e1, e2, hq, w1, w2, h2, h3, Tryz.results168]
    | cons c r =>
      simp only [List.length_cons] at hql
      by_cases hc : c = 118
      · subst hc
        have h5 : List.isPrefixOf [(118 : UInt8)] (118 :: r) = true := by simp [List.isPrefixOf]
        rw [h5] at h2
        simp only [if_true, List.length_cons, List.length_nil, Nat.zero_add, List.drop_succ_cons, List.drop_zero] at h2
        have h3 := number_eq r (by omega)
        have h7 : majB (118 :: r) = match numB r with
            | none => none
            | some n => if n < 2 then none else some n := rfl
        cases hn : numB r with
        | none =>
          rw [hn] at h3 h7
          rw [h7] at e2
          simp only at e2
          simp (maxSteps := 4000000) [List.getElem?_cons_zero, List.getElem?_cons_succ, h1, e1, e2, hq, w1, w2, h2, h3, Tryz.results168]
        | some n =>
          rw [hn] at h3 h7
          simp only at h7
          by_cases h6 : n < 2
          · rw [if_pos h6] at h7
            rw [h7] at e2
            simp (maxSteps := 4000000) [List.getElem?_cons_zero, List.getElem?_cons_succ, h1, e1, e2, hq, w1, w2, h2, h3, h6, Tryz.results168]
          · rw [if_neg h6] at h7
            rw [h7] at e2
            simp (maxSteps := 4000000) [List.getElem?_cons_zero, List.getElem?_cons_succ, h1, e1, e2, hq, w1, w2, w3, h2, h3, h6, Tryz.results168]
      · have h5 : List.isPrefixOf [(118 : UInt8)] (c :: r) = false := by simp [List.isPrefixOf]; exact fun e => hc e.symm
        have h7 : majB (c :: r) = none := by simp [majB, hc]
        rw [h7] at e2
        rw [h5] at h2
        simp only [Bool.false_eq_true, if_false] at h2
        have h3 := number_eq (c :: r) (by simp; omega)
        simp (maxSteps := 4000000) [List.getElem?_cons_zero, List.getElem?_cons_succ, h1, e1, e2, hq, w1, w2, h2, h3, Tryz.results168]
theorem elements_eq (p o : List UInt8) (hp : p.length ≤ 2 ^ 30) (b : Nat) (sh) (σ : List (List AV)) (hb : σ[b]? = some [.str o]) : ev 151 [.str p, .fn 184 [.gp b 0 sh]] σ = some (.bool (elemsB o p), σ) := by
  have hS := Split1_eq p hp 47
  obtain ⟨L, hL⟩ : ∃ L, splitB 47 p = L := ⟨_, rfl⟩
  have hm : ∀ x ∈ L, x.length ≤ 2 ^ 30 := fun x hx => Nat.le_trans (splitB_le (hL ▸ hx)) hp
  have hn : L.length ≤ 2 ^ 31 := by rw [← hL]; have := splitB_many 47 p; omega
  have hAll : elemsB o p = L.all (elemB o) := by unfold elemsB; rw [hL]
  rw [hL] at hS
  refine EV_post rfl Tryz.func151 rfl (by simp [Tryz.ntmps151]) (by kernel_rfl) (by kernel_rfl) ?_
  simp (maxSteps := 4000000) [List.getElem?_cons_zero, List.getElem?_cons_succ, hS]
  refine Post_loop (I := fun i : Nat => ⟨[(1, .fn 184 [.gp b 0 sh]), (8, .sl (.ex 9 1) (L.map .str)), (9, .int .i64 L.length), (10, .int .i64 i)], [], σ⟩) (Pr := fun i => i ≤ L.length ∧ ∀ x ∈ L.take i, elemB o x = true) (μ := fun i => L.length - i) (a := 0) (by simp) (by simp) ?_
  rintro i ⟨hi, ha⟩
  by_cases hc : i < L.length
  · obtain ⟨x, hx⟩ : ∃ x, L[i] = x := ⟨_, rfl⟩
    have hx2 : L[i]? = some x := by rw [← hx]; exact List.getElem?_eq_getElem hc
    have hxl := hm x (hx ▸ List.getElem_mem hc)
    have h1 := allW_eq x o (by omega) b sh σ hb
    have w6 : IntKind.i64.wrap ((i : Int) + 1) = (i : Int) + 1 := wrap64 (by omega)
    have bad : elemB o x = false → elemsB o p = false := fun e => by rw [hAll, Bool.eq_false_iff]; intro h; have := List.all_eq_true.1 h _ (hx ▸ List.getElem_mem hc); rw [e] at this; cases this
    by_cases hA : allB (wordB o) x = true
    · obtain ⟨c, r, hcr⟩ : ∃ c r, x = c :: r := by cases x with
        | nil => simp [allB] at hA
        | cons c r => exact ⟨c, r, rfl⟩
      have g0 : x[0]? = some c := by rw [hcr]; rfl
      have hlen : x.length = r.length + 1 := by rw [hcr]; simp
      obtain ⟨d, hd⟩ : ∃ d, x[r.length]? = some d := ⟨_, List.getElem?_eq_getElem (by omega)⟩
      have hlast : x.getLast? = some d := by rw [List.getLast?_eq_getElem?, hlen]; simpa using hd
      have hhead : x.head? = some c := by rw [hcr]; rfl
      have w7 : IntKind.i64.wrap ((x.length : Int) - 1) = (r.length : Int) := by rw [wrap64 (by omega)]; omega
      by_cases e1 : c = 46
      · have hf := bad (by simp [elemB, hhead, e1])
        subst e1
        simp (maxSteps := 4000000) [List.getElem?_cons_zero, List.getElem?_cons_succ, -getElem?_pos, hc, hx2, h1, hA, g0, hf, Tryz.results151]
      · by_cases e2 : d = 46
        · have hf := bad (by simp [elemB, hlast, e2])
          subst e2
          simp (maxSteps := 4000000) [List.getElem?_cons_zero, List.getElem?_cons_succ, -getElem?_pos, hc, hx2, h1, hA, g0, e1, w7, hd, hf, Tryz.results151]
        · have hq : elemB o x = true := by simp [elemB, hA, hhead, hlast, e1, e2]
          simp (maxSteps := 4000000) [List.getElem?_cons_zero, List.getElem?_cons_succ, -getElem?_pos, hc, hx2, h1, hA, g0, e1, w7, hd, e2, w6]
          exact ⟨i + 1, ⟨by omega, take_all hc ha (by rw [hx]; exact hq)⟩, by omega, by simp⟩
    · have hf := bad (by simp [elemB, hA])
      simp (maxSteps := 4000000) [List.getElem?_cons_zero, List.getElem?_cons_succ, -getElem?_pos, hc, hx2, h1, hA, hf, Tryz.results151]
  · have hi' : i = L.length := by omega
    subst hi'
    rw [List.take_length] at ha
    have ht : elemsB o p = true := by rw [hAll]; exact List.all_eq_true.2 ha
    simp (maxSteps := 4000000) [List.getElem?_cons_zero, List.getElem?_cons_succ, ht, Tryz.results151]
theorem odd_eq (c : UInt8) (σ) : ev 164 [.int .u8 c.toNat] σ = some (.bool (oddB c), σ) := by
  have h := upper_eq c
  refine EV_post rfl Tryz.func164 rfl (by simp [Tryz.ntmps164]) (by kernel_rfl) (by kernel_rfl) ?_
  by_cases d : isU c = true
  · simp (maxSteps := 4000000) [List.getElem?_cons_zero, List.getElem?_cons_succ, h, d, oddB, Tryz.results164]
  · by_cases e : c = 95
    · subst e
      have h' : ∀ σ, ev 165 [.int .u8 95] σ = some (.bool false, σ) := fun σ => upper_eq 95 σ
      simp (maxSteps := 4000000) [List.getElem?_cons_zero, List.getElem?_cons_succ, h', oddB, Tryz.results164]
    · simp (maxSteps := 4000000) [List.getElem?_cons_zero, List.getElem?_cons_succ, h, d, e, oddB, Tryz.results164]
theorem firstOdd_def (l : List UInt8) : ∃ b, l.any oddB = b := ⟨_, rfl⟩
theorem CheckPath_eq (p : List UInt8) (hp : p.length ≤ 2 ^ 30) (σ) : ev 134 [.str p] σ = some (.int .i64 (pathB p), σ) := by
  have hw : ev 152 [.str [45, 46, 95, 126]] σ = some (.fn 184 [.gp σ.length 0 (some (9, 1))], σ ++ [[.str [45, 46, 95, 126]]]) := word_eq _ σ
  have he := elements_eq p [45, 46, 95, 126] hp σ.length (some (9, 1)) (σ ++ [[.str [45, 46, 95, 126]]]) (by simp)
  have hcl := cutB_le 47 p
  have hlm := lastB_mem p
  have hlx := lixI_eq 47 p
  have hC := Cut1_eq p (by omega) 47
  have hL := LastIndex1_eq p (by omega) 47
  have hM := SplitMajor_eq p hp
  have hlb : lastB p = match lix 47 p with
      | some n => p.drop (n + 1)
      | none => p := rfl
  refine EV_post rfl Tryz.func134 rfl (by simp [Tryz.ntmps134]) (by kernel_rfl) (by kernel_rfl) ?_
  by_cases h : 100 < p.length
  · have e1 : pathB p = 13 := by simp [pathB, h]
    simp (maxSteps := 4000000) [List.getElem?_cons_zero, List.getElem?_cons_succ, h, e1, Tryz.results134]
  · obtain ⟨⟨f, g, more⟩, hk⟩ : ∃ x, cutB 47 p = x := ⟨_, rfl⟩
    obtain ⟨⟨sm, n⟩, hk2⟩ : ∃ x, splitMB p = x := ⟨_, rfl⟩
    rw [hk] at hC hcl
    rw [hk2] at hM
    simp only at hC hcl hM
    have hf1 := Contains1_eq f (by omega) 46
    obtain ⟨od, hod⟩ := firstOdd_def f
    have hf2 := fun σ => some_eq f (by omega) 164 [] oddB (by decide) σ (fun c => odd_eq c σ)
    rw [hod] at hf2
    by_cases e : elemsB [45, 46, 95, 126] p = true
    · rw [e] at he
      by_cases e2 : 46 ∈ f
      · obtain ⟨c, r, hcr⟩ : ∃ c r, f = c :: r := by cases f with
          | nil => simp at e2
          | cons c r => exact ⟨c, r, rfl⟩
        have g0 : f[0]? = some c := by rw [hcr]; rfl
        have hh : f.head? = some c := by rw [hcr]; rfl
        cases od with
        | true =>
          have e1 : pathB p = 9 := by simp only [pathB, if_neg h, hk]; rw [if_pos (.inr (.inr (.inl hod)))]
          simp (maxSteps := 4000000) [List.getElem?_cons_zero, List.getElem?_cons_succ, h, hw, he, hC, hf1, e2, hf2, e1, Tryz.results134]
        | false =>
          by_cases e3 : c = 45
          · have e1 : pathB p = 9 := by simp only [pathB, if_neg h, hk]; rw [if_pos (.inr (.inr (.inr (by rw [hh, e3]))))]
            subst e3
            simp (maxSteps := 4000000) [List.getElem?_cons_zero, List.getElem?_cons_succ, -getElem?_pos, h, hw, he, hC, hf1, e2, hf2, g0, e1, Tryz.results134]
          · have hfin : pathB p = if more = true ∧ (lastB p).head? = some 118 ∧ allB isD (lastB p).tail = true ∧ n = 0 then 10 else 0 := by
              simp only [pathB, if_neg h, hk, hk2]; rw [if_neg (by simp [e, e2, hod, hh, e3])]
            obtain ⟨q, hq⟩ : ∃ q, lastB p = q := ⟨_, rfl⟩
            rw [hq] at hfin hlm hlb
            have hqe : elemB [45, 46, 95, 126] q = true := List.all_eq_true.1 e q hlm
            obtain ⟨d, t, hdt⟩ : ∃ d t, q = d :: t := by cases q with
              | nil => simp [elemB, allB] at hqe
              | cons c r => exact ⟨c, r, rfl⟩
            have hql : q.length ≤ 2 ^ 30 := by have := splitB_le hlm; omega
            have hx1 : ∃ m : Nat, IntKind.i64.wrap (lixI 47 p + 1) = (m : Int) ∧ m ≤ p.length ∧ List.drop m p = q := by
              cases hx : lix 47 p with
              | none =>
                rw [hx] at hlx hlb
                simp only at hlx hlb
                exact ⟨0, by rw [hlx]; decide, by omega, by rw [hlb]; rfl⟩
              | some i =>
                rw [hx] at hlx hlb
                simp only at hlx hlb
                have := (lix_some hx).1
                exact ⟨i + 1, by rw [hlx, wrap64 (by omega)]; omega, by omega, by rw [hlb]⟩
            obtain ⟨m, hm1, hm2, hm3⟩ := hx1
            have g1 : q[0]? = some d := by rw [hdt]; rfl
            have g2 : q.tail = t := by rw [hdt]; rfl
            have g3 : 1 ≤ q.length := by rw [hdt]; simp
            have hD := allD_eq t (by rw [hdt] at hql; simp at hql; omega)
            have h7 : q.head? = some d := by rw [hdt]; rfl
            have h8 : q.tail = t := by rw [hdt]; rfl
            rw [h7, h8] at hfin
            cases more with
            | false =>
              have e1 : pathB p = 0 := by rw [hfin, if_neg (by simp)]
              simp (maxSteps := 4000000) [List.getElem?_cons_zero, List.getElem?_cons_succ, -getElem?_pos, h, hw, he, hC, hf1, e2, hf2, g0, e3, hL, hm1, hm2, hm3, hM, e1, Tryz.results134]
            | true =>
              by_cases e4 : d = 118
              · by_cases e5 : allB isD t = true
                · by_cases e6 : n = 0
                  · have e1 : pathB p = 10 := by rw [hfin, if_pos (by simp [e4, e5, e6])]
                    subst e4 e6
                    simp (maxSteps := 4000000) [List.getElem?_cons_zero, List.getElem?_cons_succ, -getElem?_pos, h, hw, he, hC, hf1, e2, hf2, g0, e3, hL, hm1, hm2, hm3, hM, g1, g2, g3, hD, e5, e1, Tryz.results134]
                  · have e1 : pathB p = 0 := by rw [hfin, if_neg (by simp [e6])]
                    subst e4
                    simp (maxSteps := 4000000) [List.getElem?_cons_zero, List.getElem?_cons_succ, -getElem?_pos, h, hw, he, hC, hf1, e2, hf2, g0, e3, hL, hm1, hm2, hm3, hM, g1, g2, g3, hD, e5, e6, e1, Tryz.results134]
                · have e1 : pathB p = 0 := by rw [hfin, if_neg (by simp [e5])]
                  subst e4
                  simp (maxSteps := 4000000) [List.getElem?_cons_zero, List.getElem?_cons_succ, -getElem?_pos, h, hw, he, hC, hf1, e2, hf2, g0, e3, hL, hm1, hm2, hm3, hM, g1, g2, g3, hD, e5, e1, Tryz.results134]
              · have e1 : pathB p = 0 := by rw [hfin, if_neg (by simp [e4])]
                simp (maxSteps := 4000000) [List.getElem?_cons_zero, List.getElem?_cons_succ, -getElem?_pos, h, hw, he, hC, hf1, e2, hf2, g0, e3, hL, hm1, hm2, hm3, hM, g1, e4, e1, Tryz.results134]
      · have e1 : pathB p = 9 := by simp only [pathB, if_neg h, hk]; rw [if_pos (.inr (.inl e2))]
        simp (maxSteps := 4000000) [List.getElem?_cons_zero, List.getElem?_cons_succ, h, hw, he, hC, hf1, e2, e1, Tryz.results134]
    · have e : elemsB [45, 46, 95, 126] p = false := by simpa using e
      have e1 : pathB p = 9 := by simp only [pathB, if_neg h, hk]; rw [if_pos (.inl e)]
      simp (maxSteps := 4000000) [List.getElem?_cons_zero, List.getElem?_cons_succ, h, hw, he, hC, e, e1, Tryz.results134]
theorem Matches_eq (v p : List UInt8) (hv : v.length ≤ 2 ^ 30) (hp : p.length ≤ 2 ^ 30) (σ) : ev 136 [.str v, .str p] σ = some (.bool (matchesB v p), σ) := by
  have h1 := read_eq v hv
  have h2 := SplitMajor_eq p hp
  obtain ⟨⟨sm, n⟩, hk2⟩ : ∃ x, splitMB p = x := ⟨_, rfl⟩
  rw [hk2] at h2
  refine EV_post rfl Tryz.func136 rfl (by simp [Tryz.ntmps136]) (by kernel_rfl) (by kernel_rfl) ?_
  cases e1 : readB v with
  | none =>
    rw [e1] at h1
    have h4 : matchesB v p = false := by simp [matchesB, e1]
    simp (maxSteps := 4000000) [List.getElem?_cons_zero, List.getElem?_cons_succ, h1, h2, h4, verA, Tryz.results136]
  | some x =>
    rw [e1] at h1
    have h4 : matchesB v p = (decide (x.ma = n) || (decide (n = 0) && decide (x.ma = 1))) := by simp [matchesB, e1, hk2]
    by_cases d1 : x.ma = n
    · simp (maxSteps := 4000000) [List.getElem?_cons_zero, List.getElem?_cons_succ, h1, h2, h4, d1, verA, Tryz.results136]
    · by_cases d2 : n = 0
      · subst d2
        simp (maxSteps := 4000000) [List.getElem?_cons_zero, List.getElem?_cons_succ, h1, h2, h4, d1, verA, Tryz.results136]
      · simp (maxSteps := 4000000) [List.getElem?_cons_zero, List.getElem?_cons_succ, h1, h2, h4, d1, d2, verA, Tryz.results136]
end Go.Proofs.Tryz.Ai
end
section
/- mewsref3: paths. -/
namespace Go.Proofs.Tryz.Ai
open Go Go.AI Go.Proofs
set_option maxHeartbeats 4000000
set_option linter.unusedVariables false

end Go.Proofs.Tryz.Ai
end
section
/- mewsref3: majors. -/
namespace Go.Proofs.Tryz.Ai
open Go Go.AI Go.Proofs
set_option maxHeartbeats 4000000
set_option linter.unusedVariables false

def sufB : List UInt8 → Nat
  | [] => 0
  | c :: r => if c ≠ 118 then 0 else match numB r with
    | none => 0
    | some n => n
end Go.Proofs.Tryz.Ai
end
section
/- mewsref3: checks of a path. -/
namespace Go.Proofs.Tryz.Ai
open Go Go.AI Go.Proofs
set_option maxHeartbeats 4000000
set_option linter.unusedVariables false

def hostB (f : List UInt8) : Bool := !(f.any oddB) && (decide (46 ∈ f) && !(decide (f.head? = some 45)))
end Go.Proofs.Tryz.Ai
end
section
/- mewsref3: CheckPath. -/
namespace Go.Proofs.Tryz.Ai
open Go Go.AI Go.Proofs
set_option maxHeartbeats 4000000
set_option linter.unusedVariables false

end Go.Proofs.Tryz.Ai
end
section
/- mod.Compare. -/
namespace Go.Proofs.Tryz.Ai
open Go Go.AI Go.Proofs
set_option maxHeartbeats 2000000
set_option linter.unusedVariables false

def orL (l : List Int) : Int := l.foldr orI 0
def intC (x y : Int) : Int := if x < y then -1 else if y < x then 1 else 0
theorem intC_nat (a b : Nat) : intC a b = natC a b := by unfold intC natC; simp only [Int.ofNat_lt]
theorem orI_zero (x : Int) : orI x 0 = x := by unfold orI; split <;> omega
theorem orL_drop (l : List Int) (i : Nat) (h : ∀ x ∈ l.take i, x = 0) : orL l = orL (l.drop i) := by
  induction l generalizing i with
  | nil => simp
  | cons a r ih =>
    cases i with
    | zero => rfl
    | succ i =>
      simp only [List.take_succ_cons, List.mem_cons, forall_eq_or_imp] at h
      rw [List.drop_succ_cons, ← ih i h.2]
      simp [orL, orI, h.1]
theorem cmpOr_eq (l : List Int) (hl : l.length ≤ 2 ^ 31) (σ) : ev 161 [.sl .sh (l.map (.int .i64))] σ = some (.int .i64 (orL l), σ) := by
  refine EV_post rfl Tryz.func161 rfl (by simp [Tryz.ntmps161]) (by kernel_rfl) (by kernel_rfl) ?_
  simp (maxSteps := 4000000) (disch := omega) [dT, dF, wrap64]
  refine Post_loop (I := fun i : Nat => ⟨[(3, .int .i64 0), (6, .sl .sh (l.map (.int .i64))), (7, .int .i64 l.length), (8, .int .i64 i)], [], σ⟩) (Pr := fun i => i ≤ l.length ∧ ∀ x ∈ l.take i, x = 0) (μ := fun i => l.length - i) (a := 0) (by simp) (by simp) ?_
  rintro i ⟨hi, hn⟩
  by_cases hc : i < l.length
  · obtain ⟨x, hx⟩ : ∃ x, l[i] = x := ⟨_, rfl⟩
    have hx2 : l[i]? = some x := by rw [← hx]; exact List.getElem?_eq_getElem hc
    have w6 : IntKind.i64.wrap ((i : Int) + 1) = (i : Int) + 1 := wrap64 (by omega)
    have hd := orL_drop l i hn
    rw [List.drop_eq_getElem_cons hc, hx] at hd
    by_cases hq : x = 0
    · simp (maxSteps := 4000000) [List.getElem?_cons_zero, List.getElem?_cons_succ, -getElem?_pos, hc, hx2, hq, w6]
      exact ⟨i + 1, ⟨by omega, take_all (p := id) hc hn (hx.trans hq)⟩, by omega, by simp⟩
    · have h2 : orL l = x := by rw [hd]; simp [orL, orI, hq]
      simp (maxSteps := 4000000) [List.getElem?_cons_zero, List.getElem?_cons_succ, -getElem?_pos, hc, hx2, hq, h2, Tryz.results161]
  · have hi' : i = l.length := by omega
    subst hi'
    have hd := orL_drop l _ hn
    simp only [List.drop_length] at hd
    have h2 : orL l = 0 := hd
    simp (maxSteps := 4000000) [List.getElem?_cons_zero, List.getElem?_cons_succ, h2, Tryz.results161]
theorem cmpInt_eq (x y : Int) (σ) : ev 85 [.int .i64 x, .int .i64 y] σ = some (.int .i64 (intC x y), σ) := by
  have hn : ∀ z σ, ev 130 [.int .i64 z] σ = some (.bool false, σ) := by
    intro z σ
    refine EV_post rfl Tryz.func130 rfl (by simp [Tryz.ntmps130]) (by kernel_rfl) (by kernel_rfl) ?_
    simp (maxSteps := 4000000) [List.getElem?_cons_zero, List.getElem?_cons_succ, Tryz.results130]
  refine EV_post rfl Tryz.func85 rfl (by simp [Tryz.ntmps85]) (by kernel_rfl) (by kernel_rfl) ?_
  by_cases h1 : x < y
  · simp (maxSteps := 4000000) [List.getElem?_cons_zero, List.getElem?_cons_succ, hn, h1, intC, Tryz.results85]
  · by_cases h2 : y < x
    · simp (maxSteps := 4000000) [List.getElem?_cons_zero, List.getElem?_cons_succ, hn, h1, h2, intC, Tryz.results85]
    · simp (maxSteps := 4000000) [List.getElem?_cons_zero, List.getElem?_cons_succ, hn, h1, h2, intC, Tryz.results85]
theorem cmpNat_eq (x y : Nat) (σ) : ev 85 [.int .i64 x, .int .i64 y] σ = some (.int .i64 (natC x y), σ) := by rw [cmpInt_eq, intC_nat]
theorem Compare_eq (a b : List UInt8) (σ) : ev 162 [.str a, .str b] σ = some (.int .i64 (bytesC a b), σ) := by
  have h1 : ∀ σ, ev 199 [.str a, .str b] σ = some (.int .i64 (bytesC a b), σ) := fun σ => by rw [ev_compare]; simp [compareT, compareBytes_eq]
  refine EV_post rfl Tryz.func162 rfl (by simp [Tryz.ntmps162]) (by kernel_rfl) (by kernel_rfl) ?_
  simp (maxSteps := 4000000) [List.getElem?_cons_zero, List.getElem?_cons_succ, h1, Tryz.results162]
theorem CompareFunc_eq (L M : List (List UInt8)) (hL : L.length ≤ 2 ^ 31) (hM : M.length ≤ 2 ^ 31) (g : Nat) (cap : List AV) (c : List UInt8 → List UInt8 → Int) (hg : g < 100000) (σ : List (List AV))
    (hp : ∀ a ∈ L, ∀ b ∈ M, ev g (.str a :: .str b :: cap) σ = some (.int .i64 (c a b), σ)) :
    ev 225 [.sl .sh (L.map .str), .sl .sh (M.map .str), .fn g cap] σ = some (.int .i64 (lexC c L M), σ) := by
  refine EV_post rfl Tryz.func225 rfl (by simp [Tryz.ntmps225]) (by kernel_rfl) (by kernel_rfl) ?_
  simp (maxSteps := 4000000) (disch := omega) [dT, dF, wrap64]
  refine Post_loop (I := fun i : Nat => ⟨[(0, .sl .sh (L.map .str)), (1, .sl .sh (M.map .str)), (2, .fn g cap), (11, .sl .sh (L.map .str)), (12, .int .i64 L.length), (13, .int .i64 i)], [], σ⟩)
    (Pr := fun i => i ≤ L.length ∧ i ≤ M.length ∧ lexC c L M = lexC c (L.drop i) (M.drop i)) (μ := fun i => L.length - i) (a := 0) (by simp) (by simp) ?_
  rintro i ⟨hi, hj, hn⟩
  by_cases hc : i < L.length
  · obtain ⟨x, hx⟩ : ∃ x, L[i] = x := ⟨_, rfl⟩
    have hx2 : L[i]? = some x := by rw [← hx]; exact List.getElem?_eq_getElem hc
    have w6 : IntKind.i64.wrap ((i : Int) + 1) = (i : Int) + 1 := wrap64 (by omega)
    rw [List.drop_eq_getElem_cons hc, hx] at hn
    by_cases hd : i < M.length
    · obtain ⟨y, hy⟩ : ∃ y, M[i] = y := ⟨_, rfl⟩
      have hy2 : M[i]? = some y := by rw [← hy]; exact List.getElem?_eq_getElem hd
      have hd' : ¬ M.length ≤ i := by omega
      rw [List.drop_eq_getElem_cons hd, hy] at hn
      have hq := hp x (hx ▸ List.getElem_mem hc) y (hy ▸ List.getElem_mem hd)
      by_cases hz : c x y = 0
      · have h2 : lexC c L M = lexC c (L.drop (i + 1)) (M.drop (i + 1)) := by rw [hn]; simp [lexC, orI, hz]
        simp (maxSteps := 4000000) [List.getElem?_cons_zero, List.getElem?_cons_succ, -getElem?_pos, hc, hd, hd', hx2, hy2, hg, hq, hz, w6]
        exact ⟨i + 1, ⟨by omega, by omega, h2⟩, by omega, by simp⟩
      · have h2 : lexC c L M = c x y := by rw [hn]; simp [lexC, orI, hz]
        simp (maxSteps := 4000000) [List.getElem?_cons_zero, List.getElem?_cons_succ, -getElem?_pos, hc, hd, hd', hx2, hy2, hg, hq, hz, h2, Tryz.results225]
    · have hd' : M.length ≤ i := by omega
      have h3 : M.drop i = [] := List.drop_of_length_le hd'
      have h2 : lexC c L M = 1 := by rw [hn, h3]; simp [lexC]
      simp (maxSteps := 4000000) [List.getElem?_cons_zero, List.getElem?_cons_succ, -getElem?_pos, hc, hd, hd', hx2, h2, Tryz.results225]
  · have hi' : i = L.length := by omega
    subst hi'
    rw [List.drop_length] at hn
    by_cases hd : L.length < M.length
    · have h2 : lexC c L M = -1 := by rw [hn, List.drop_eq_getElem_cons hd]; simp [lexC]
      simp (maxSteps := 4000000) [List.getElem?_cons_zero, List.getElem?_cons_succ, hd, h2, Tryz.results225]
    · have h2 : lexC c L M = 0 := by rw [hn, List.drop_of_length_le (by omega)]; simp [lexC]
      simp (maxSteps := 4000000) [List.getElem?_cons_zero, List.getElem?_cons_succ, hd, h2, Tryz.results225]
theorem pres1_eq (a b : List UInt8) (ha : a.length ≤ 2 ^ 31) (hb : b.length ≤ 2 ^ 31) (σ) : ev 226 [.str a, .str b] σ = some (.int .i64 (idC a b), σ) := by
  have h1 := allD_eq a ha
  have h2 := allD_eq b hb
  have h3 := Compare_eq a b
  have h4 := cmpNat_eq a.length b.length
  have h5 := fun σ => cmpOr_eq [natC a.length b.length, bytesC a b] (by simp) σ
  have h6 : orL [natC a.length b.length, bytesC a b] = orI (natC a.length b.length) (bytesC a b) := by simp only [orL, List.foldr_cons, List.foldr_nil, orI_zero]
  rw [h6] at h5
  simp only [List.map_cons, List.map_nil] at h5
  refine EV_post rfl Tryz.func226 rfl (by simp [Tryz.ntmps226]) (by kernel_rfl) (by kernel_rfl) ?_
  by_cases d1 : allB isD a = true
  · by_cases d2 : allB isD b = true
    · simp (maxSteps := 4000000) [List.getElem?_cons_zero, List.getElem?_cons_succ, h1, h2, h3, h4, h5, d1, d2, idC, Tryz.results226]
    · simp (maxSteps := 4000000) [List.getElem?_cons_zero, List.getElem?_cons_succ, h1, h2, h3, d1, d2, idC, Tryz.results226]
  · by_cases d2 : allB isD b = true
    · simp (maxSteps := 4000000) [List.getElem?_cons_zero, List.getElem?_cons_succ, h1, h2, h3, d1, d2, idC, Tryz.results226]
    · simp (maxSteps := 4000000) [List.getElem?_cons_zero, List.getElem?_cons_succ, h1, h2, h3, d1, d2, idC, Tryz.results226]
theorem pres_eq (a b : List UInt8) (ha : a.length ≤ 2 ^ 30) (hb : b.length ≤ 2 ^ 30) (σ) : ev 200 [.str a, .str b] σ = some (.int .i64 (presC a b), σ) := by
  have hmin : ∀ l : List UInt8, (if 1 < l.length then (1 : Int) else l.length) = ((min l.length 1 : Nat) : Int) := by intro l; split <;> omega
  have h1 := cmpNat_eq (min b.length 1) (min a.length 1)
  have h2 := Split1_eq a ha 46
  have h3 := Split1_eq b hb 46
  have h4 := fun σ => CompareFunc_eq (splitB 46 a) (splitB 46 b) (by have := splitB_many 46 a; omega) (by have := splitB_many 46 b; omega) 226 [] idC (by decide) σ
    (fun x hx y hy => pres1_eq x y (by have := splitB_le hx; omega) (by have := splitB_le hy; omega) σ)
  refine EV_post rfl Tryz.func200 rfl (by simp [Tryz.ntmps200]) (by kernel_rfl) (by kernel_rfl) ?_
  by_cases e1 : a = []
  · subst e1
    have h5 : presC [] b = natC (min b.length 1) 0 := by simp [presC]
    have h1' : ∀ σ, ev 85 [.int .i64 ((min b.length 1 : Nat) : Int), .int .i64 0] σ = some (.int .i64 (natC (min b.length 1) 0), σ) := h1
    simp (maxSteps := 4000000) [List.getElem?_cons_zero, List.getElem?_cons_succ, hmin, h1', h5, Tryz.results200]
  · by_cases e2 : b = []
    · subst e2
      have h5 : presC a [] = natC 0 (min a.length 1) := by simp [presC]
      have h1' : ∀ σ, ev 85 [.int .i64 0, .int .i64 ((min a.length 1 : Nat) : Int)] σ = some (.int .i64 (natC 0 (min a.length 1)), σ) := h1
      have e1' : a.isEmpty = false := by simpa using e1
      simp (maxSteps := 4000000) [List.getElem?_cons_zero, List.getElem?_cons_succ, e1', hmin, h1', h5, Tryz.results200]
    · have h5 : presC a b = lexC idC (splitB 46 a) (splitB 46 b) := by simp [presC, e1, e2]
      have e1' : a.isEmpty = false := by simpa using e1
      have e2' : b.isEmpty = false := by simpa using e2
      simp (maxSteps := 4000000) [List.getElem?_cons_zero, List.getElem?_cons_succ, e1', e2', h2, h3, h4, h5, Tryz.results200]
theorem cmpB_eq (a b : List UInt8) (ha : a.length ≤ 2 ^ 30) (hb : b.length ≤ 2 ^ 30) (σ) : ev 163 [.str a, .str b] σ = some (.int .i64 (cmpB a b), σ) := by
  have h1 := read_eq a ha
  have h2 := read_eq b hb
  have h3 := Compare_eq a b
  refine EV_post rfl Tryz.func163 rfl (by simp [Tryz.ntmps163]) (by kernel_rfl) (by kernel_rfl) ?_
  cases e1 : readB a with
  | none =>
    rw [e1] at h1
    cases e2 : readB b with
    | none =>
      rw [e2] at h2
      have h4 : cmpB a b = bytesC a b := by simp [cmpB, e1, e2]
      simp (maxSteps := 4000000) [List.getElem?_cons_zero, List.getElem?_cons_succ, h1, h2, h3, h4, verA, Tryz.results163]
    | some y =>
      rw [e2] at h2
      have h4 : cmpB a b = -1 := by simp [cmpB, e1, e2]
      simp (maxSteps := 4000000) [List.getElem?_cons_zero, List.getElem?_cons_succ, h1, h2, h3, h4, verA, Tryz.results163]
  | some x =>
    rw [e1] at h1
    cases e2 : readB b with
    | none =>
      rw [e2] at h2
      have h4 : cmpB a b = 1 := by simp [cmpB, e1, e2]
      simp (maxSteps := 4000000) [List.getElem?_cons_zero, List.getElem?_cons_succ, h1, h2, h3, h4, verA, Tryz.results163]
    | some y =>
      rw [e2] at h2
      have h4 : cmpB a b = verC x y := by simp [cmpB, e1, e2]
      have rx := readB_some e1
      have ry := readB_some e2
      have p1 : x.pre.length ≤ 2 ^ 30 := by
        have := rx.len; rw [rx.text] at this; unfold verT at this; split at this
        · rename_i q; rw [q]; simp
        · simp at this; omega
      have p2 : y.pre.length ≤ 2 ^ 30 := by
        have := ry.len; rw [ry.text] at this; unfold verT at this; split at this
        · rename_i q; rw [q]; simp
        · simp at this; omega
      have h5 := cmpNat_eq x.ma y.ma
      have h6 := cmpNat_eq x.mi y.mi
      have h7 := cmpNat_eq x.pa y.pa
      have h8 := pres_eq x.pre y.pre p1 p2
      have h9 := fun σ => cmpOr_eq [natC x.ma y.ma, natC x.mi y.mi, natC x.pa y.pa, presC x.pre y.pre] (by simp) σ
      have ha : orL [natC x.ma y.ma, natC x.mi y.mi, natC x.pa y.pa, presC x.pre y.pre] = verC x y := by
        unfold verC; simp only [orL, List.foldr_cons, List.foldr_nil, orI_zero]
      rw [ha] at h9
      simp only [List.map_cons, List.map_nil] at h9
      simp (maxSteps := 4000000) [List.getElem?_cons_zero, List.getElem?_cons_succ, h1, h2, h3, h4, h5, h6, h7, h8, h9, verA, Tryz.results163]
end Go.Proofs.Tryz.Ai
end
section
/- mod: what of versions is told; pseudo-versions. -/
namespace Go.Proofs.Tryz.Ai
open Go Go.AI Go.Proofs
set_option maxHeartbeats 2000000
set_option linter.unusedVariables false

end Go.Proofs.Tryz.Ai
end
section
/- mod: what of versions is told; pseudo-versions. -/
namespace Go.Proofs.Tryz.Ai
open Go Go.AI Go.Proofs
set_option maxHeartbeats 2000000
set_option linter.unusedVariables false

theorem Valid_eq (s : List UInt8) (hl : s.length ≤ 2 ^ 30) (σ) : ev 135 [.str s] σ = some (.bool (readB s).isSome, σ) := by
  have h1 := read_eq s hl
  refine EV_post rfl Tryz.func135 rfl (by simp [Tryz.ntmps135]) (by kernel_rfl) (by kernel_rfl) ?_
  cases e1 : readB s with
  | none => rw [e1] at h1; simp (maxSteps := 4000000) [List.getElem?_cons_zero, List.getElem?_cons_succ, h1, verA, Tryz.results135]
  | some x => rw [e1] at h1; simp (maxSteps := 4000000) [List.getElem?_cons_zero, List.getElem?_cons_succ, h1, verA, Tryz.results135]
def partsA : Option Ver → AV
  | some v => .tup [.int .i64 v.ma, .int .i64 v.mi, .int .i64 v.pa, .str v.pre, .bool true]
  | none => .tup [.int .i64 0, .int .i64 0, .int .i64 0, .str [], .bool false]
end Go.Proofs.Tryz.Ai
end
section
/- mod and mewsref3: Check. -/
namespace Go.Proofs.Tryz.Ai
open Go Go.AI Go.Proofs
set_option maxHeartbeats 4000000
set_option linter.unusedVariables false

theorem Check_eq (p v : List UInt8) (hp : p.length ≤ 2 ^ 30) (hv : v.length ≤ 2 ^ 30) (σ) : ev 93 [.agg [.str p, .str v]] σ = some (.int .i64 (checkB p v), σ) := by
  have h1 := CheckPath_eq p hp
  have h2 := Valid_eq v hv
  have h3 := Matches_eq v p hv hp
  refine EV_post rfl Tryz.func93 rfl (by simp [Tryz.ntmps93]) (by kernel_rfl) (by kernel_rfl) ?_
  by_cases c1 : pathB p = 0
  · rw [c1] at h1
    cases e2 : readB v with
    | none =>
      rw [e2] at h2
      have hf : checkB p v = 8 := by simp [checkB, c1, e2]
      simp (maxSteps := 4000000) [List.getElem?_cons_zero, List.getElem?_cons_succ, h1, h2, hf, Tryz.results93]
    | some x =>
      rw [e2] at h2
      cases e3 : matchesB v p with
      | false =>
        rw [e3] at h3
        have hf : checkB p v = 10 := by simp [checkB, c1, e2, e3]
        simp (maxSteps := 4000000) [List.getElem?_cons_zero, List.getElem?_cons_succ, h1, h2, h3, hf, Tryz.results93]
      | true =>
        rw [e3] at h3
        have hf : checkB p v = 0 := by simp [checkB, c1, e2, e3]
        simp (maxSteps := 4000000) [List.getElem?_cons_zero, List.getElem?_cons_succ, h1, h2, h3, hf, Tryz.results93]
  · have hf : checkB p v = pathB p := by simp [checkB, c1]
    simp (maxSteps := 4000000) [List.getElem?_cons_zero, List.getElem?_cons_succ, h1, c1, hf, Tryz.results93]
end Go.Proofs.Tryz.Ai
end
section
/- sumfile: sums, one line. -/
namespace Go.Proofs.Tryz.Ai
open Go Go.AI Go.Proofs Go.B64
set_option maxHeartbeats 8000000
set_option maxRecDepth 4000
set_option linter.unusedVariables false

theorem ix_plc : ∀ c : Fin 256, ixI (UInt8.ofNat c.val) [65, 66, 67, 68, 69, 70, 71, 72, 73, 74, 75, 76, 77, 78, 79, 80, 81, 82, 83, 84, 85, 86, 87, 88, 89, 90, 97, 98, 99, 100, 101, 102, 103, 104, 105, 106, 107, 108, 109, 110, 111, 112, 113, 114, 115, 116, 117, 118, 119, 120, 121, 122, 48, 49, 50, 51, 52, 53, 54, 55, 56, 57, 43, 47] = plc (UInt8.ofNat c.val) := by decide +kernel
theorem ix_plc' (c : UInt8) : ixI c [65, 66, 67, 68, 69, 70, 71, 72, 73, 74, 75, 76, 77, 78, 79, 80, 81, 82, 83, 84, 85, 86, 87, 88, 89, 90, 97, 98, 99, 100, 101, 102, 103, 104, 105, 106, 107, 108, 109, 110, 111, 112, 113, 114, 115, 116, 117, 118, 119, 120, 121, 122, 48, 49, 50, 51, 52, 53, 54, 55, 56, 57, 43, 47] = plc c := by
  have := ix_plc ⟨c.toNat, c.toNat_lt⟩
  simpa using this
theorem sumB_len {s : List UInt8} (h : sumB s = true) : s.length = 47 := by
  obtain ⟨b, hb, rfl⟩ := (sumB_iff s).1 h
  simp [b64_len, hb]
theorem sumB_of {y : List UInt8} (hl : y.length = 43) (h : ∀ c ∈ y, 0 ≤ plc c) : sumB ([104, 49, 58] ++ (y ++ [61])) = decide (plc (y.getD 42 0) % 4 = 0) := by
  unfold sumB
  have e1 : ((([104, 49, 58] : List UInt8) ++ (y ++ [61])).drop 3).take 43 = y := by simp [← hl]
  have e2 : (([104, 49, 58] : List UInt8) ++ (y ++ [61])).getD 45 0 = y.getD 42 0 := by
    simp [List.getD]
    rw [List.getElem?_append_left (by omega)]
  rw [e1, e2]
  have e3 : (([104, 49, 58] : List UInt8) ++ (y ++ [61])).drop 46 = [61] := by simp [List.drop_append, hl]
  rw [e3]
  have e4 : y.all (fun c => decide (0 ≤ plc c)) = true := by simpa using h
  rw [e4]
  simp [hl]
theorem sumB_bad {y : List UInt8} (h : ∃ c ∈ y, plc c < 0) (hl : y.length = 43) : sumB ([104, 49, 58] ++ (y ++ [61])) = false := by
  obtain ⟨c, hc, h0⟩ := h
  unfold sumB
  have e1 : ((([104, 49, 58] : List UInt8) ++ (y ++ [61])).drop 3).take 43 = y := by simp [← hl]
  rw [e1]
  have e4 : y.all (fun c => decide (0 ≤ plc c)) = false := by
    rw [List.all_eq_false]
    exact ⟨c, hc, by simp; omega⟩
  rw [e4]
  simp
theorem ValidSum_eq (s : List UInt8) (hs : s.length ≤ 2 ^ 30) (σ) : ev 27 [.str s] σ = some (.bool (sumB s), σ) := by
  have hP := CutPrefix_eq s [104, 49, 58] (by omega) (by simp)
  refine EV_post rfl Tryz.func27 rfl (by simp [Tryz.ntmps27]) (by kernel_rfl) (by kernel_rfl) ?_
  by_cases c1 : ([104, 49, 58] : List UInt8).isPrefixOf s = true
  · obtain ⟨x, rfl⟩ := List.isPrefixOf_iff_prefix.1 c1
    have hd : (([104, 49, 58] : List UInt8) ++ x).drop ([104, 49, 58] : List UInt8).length = x := by simp
    rw [c1, if_pos rfl, hd] at hP
    have hS := CutSuffix_eq x [61] (by simp at hs; omega) (by simp)
    by_cases c2 : [61] <:+ x
    · obtain ⟨y, rfl⟩ := c2
      have ht : (y ++ [61]).take ((y ++ [61]).length - ([61] : List UInt8).length) = y := by simp
      rw [if_pos ⟨y, rfl⟩, ht, decide_eq_true ⟨y, rfl⟩] at hS
      by_cases c3 : y.length = 43
      · obtain ⟨X, hX⟩ : ∃ X, ([104, 49, 58] : List UInt8) ++ (y ++ [61]) = X := ⟨_, rfl⟩
        have h1 := sumB_of c3
        have h2 := fun h => sumB_bad (y := y) h c3
        rw [hX] at hP h1 h2 ⊢
        obtain ⟨Y, hY⟩ : ∃ Y, y ++ [61] = Y := ⟨_, rfl⟩
        rw [hY] at hP hS
        clear hX hd hY ht c1
        simp (maxSteps := 4000000) [List.getElem?_cons_zero, List.getElem?_cons_succ, hP, hS, c3]
        refine Post_loop (I := fun q : Int × Nat => ⟨[(3, .str y), (6, .int .i64 q.1), (7, .int .i64 q.2)], [], σ⟩) (Pr := fun q => q.2 ≤ 43 ∧ (∀ c ∈ y.take q.2, 0 ≤ plc c) ∧ 0 ≤ q.1 ∧ (0 < q.2 → plc (y.getD (q.2 - 1) 0) = q.1)) (μ := fun q => 43 - q.2) (a := (0, 0)) (by simp) (by simp) ?_
        rintro ⟨l, i⟩ ⟨q1, q2, q3, q4⟩
        simp only at q1 q2 q3 q4 ⊢
        have w1 : IntKind.i64.wrap ((i : Int) + 1) = (i : Int) + 1 := wrap64 (by omega)
        by_cases hc : i < 43
        · obtain ⟨c, hx⟩ : ∃ c, y[i]? = some c := ⟨_, List.getElem?_eq_getElem (by omega)⟩
          have hI := fun σ => IndexByte_eq [65, 66, 67, 68, 69, 70, 71, 72, 73, 74, 75, 76, 77, 78, 79, 80, 81, 82, 83, 84, 85, 86, 87, 88, 89, 90, 97, 98, 99, 100, 101, 102, 103, 104, 105, 106, 107, 108, 109, 110, 111, 112, 113, 114, 115, 116, 117, 118, 119, 120, 121, 122, 48, 49, 50, 51, 52, 53, 54, 55, 56, 57, 43, 47] c σ
          simp only [ix_plc'] at hI
          by_cases hn : plc c < 0
          · have hb := h2 ⟨c, List.mem_of_getElem? hx, hn⟩
            simp (maxSteps := 4000000) [List.getElem?_cons_zero, List.getElem?_cons_succ, -getElem?_pos, c3, hc, hx, hI, hn, hb, Tryz.results27]
          · simp (maxSteps := 4000000) [List.getElem?_cons_zero, List.getElem?_cons_succ, -getElem?_pos, -Prod.exists, c3, hc, hx, hI, hn, w1]
            refine ⟨(plc c, i + 1), ⟨by omega, fun e he => ?_, by omega, fun _ => by simp [List.getD, hx]⟩, by omega, by simp⟩
            rw [List.take_add_one, hx] at he
            rcases List.mem_append.1 he with he | he
            · exact q2 e he
            · simp at he; subst he; omega
        · obtain rfl : i = 43 := by omega
          rw [List.take_of_length_le (by omega)] at q2
          have h1 := h1 q2
          have h4 := q4 (by omega)
          have hm : sumB X = decide (l.tmod 4 = 0) := by rw [h1, Int.tmod_eq_emod_of_nonneg q3, ← h4]
          simp (maxSteps := 4000000) [List.getElem?_cons_zero, List.getElem?_cons_succ, c3, hm, Tryz.results27]
      · have hf : sumB ([104, 49, 58] ++ (y ++ [61])) = false := by
          rw [Bool.eq_false_iff]; intro h; have := sumB_len h; simp at this; omega
        obtain ⟨X, hX⟩ : ∃ X, ([104, 49, 58] : List UInt8) ++ (y ++ [61]) = X := ⟨_, rfl⟩
        rw [hX] at hP hf ⊢
        obtain ⟨Y, hY⟩ : ∃ Y, y ++ [61] = Y := ⟨_, rfl⟩
        rw [hY] at hP hS
        simp (maxSteps := 4000000) [List.getElem?_cons_zero, List.getElem?_cons_succ, hP, hS, c3, hf, Tryz.results27]
    · rw [if_neg c2, decide_eq_false c2] at hS
      have hf : sumB ([104, 49, 58] ++ x) = false := by
        rw [Bool.eq_false_iff]; intro h
        have h3 : (([104, 49, 58] : List UInt8) ++ x).drop 46 = [61] := by
          unfold sumB at h
          simp only [Bool.and_eq_true, beq_iff_eq] at h
          exact h.1.1.2
        apply c2
        refine ⟨x.take 43, ?_⟩
        have : x.drop 43 = [61] := by simpa [List.drop_append] using h3
        rw [← this, List.take_append_drop]
      obtain ⟨X, hX⟩ : ∃ X, ([104, 49, 58] : List UInt8) ++ x = X := ⟨_, rfl⟩
      rw [hX] at hP hf ⊢
      simp (maxSteps := 4000000) [List.getElem?_cons_zero, List.getElem?_cons_succ, hP, hS, hf, Tryz.results27]
  · have hf : sumB s = false := by
      rw [Bool.eq_false_iff]; intro h
      obtain ⟨b, _, rfl⟩ := (sumB_iff s).1 h
      exact c1 (List.isPrefixOf_iff_prefix.2 ⟨_, rfl⟩)
    have c1' : ([104, 49, 58] : List UInt8).isPrefixOf s = false := Bool.eq_false_iff.2 c1
    rw [c1'] at hP
    have hS := CutSuffix_eq s [61] (by omega) (by simp)
    obtain ⟨z, hz⟩ : ∃ z, (if [61] <:+ s then s.take (s.length - ([61] : List UInt8).length) else s) = z := ⟨_, rfl⟩
    obtain ⟨b, hb⟩ : ∃ b, decide ([61] <:+ s) = b := ⟨_, rfl⟩
    rw [hz, hb] at hS
    simp only [Bool.false_eq_true, if_false] at hP
    simp (maxSteps := 4000000) [List.getElem?_cons_zero, List.getElem?_cons_succ, hP, hS, hf, Tryz.results27]
/-- a line's error, with those ahead of it -/
def checkL (l : List Ln) (x : Ln) : Int := if checkB x.1.1 x.1.2 ≠ 0 then (checkB x.1.1 x.1.2 : Int) else if sumB x.2.2 = false then 16 else if l.any (isLn x.1 x.2.1) then 12 else 0
def lnQ (x : Ln) : Prop := x.1.1.length ≤ 2 ^ 29 ∧ x.1.2.length ≤ 2 ^ 29 ∧ x.2.2.length ≤ 2 ^ 29
theorem check_eq (l : List Ln) (hl : l.length ≤ 2 ^ 29) (x : Ln) (hx : lnQ x) (σ) : ev 55 [.sl .sh (l.map lnF), lnF x] σ = some (.int .i64 (checkL l x), σ) := by
  have h1 := fun σ b d sh sh' hb hd => ContainsFuncL_eq l (by omega) 87 (by decide) [.gp b 0 sh, .gp d 0 sh'] (by simp [args, arg, dem]) (isLn x.1 x.2.1) σ (fun y _ => of1_eq x.1 x.2.1 b d sh sh' y σ hb hd)
  have h2 := of_eq x.1 x.2.1
  have h5 := Check_eq x.1.1 x.1.2 (by have := hx.1; omega) (by have := hx.2.1; omega)
  have h6 := ValidSum_eq x.2.2 (by have := hx.2.2; omega)
  have h7 := fun a b c => sfirst_eq [a, b, c] (by simp)
  have hA : checkL l x = fstE [(checkB x.1.1 x.1.2 : Int), if (!sumB x.2.2) = true then 16 else 0, if l.any (isLn x.1 x.2.1) = true then 12 else 0] := by
    unfold checkL fstE
    cases sumB x.2.2 <;> cases l.any (isLn x.1 x.2.1) <;> by_cases h : checkB x.1.1 x.1.2 = 0 <;> simp [orI, h]
  rw [hA]
  obtain ⟨⟨x1, x2⟩, x3, x4⟩ := x
  simp only at h1 h2 h5 h6 ⊢
  have h3 : ∀ σ : List (List AV), ev 94 [.sl .sh (l.map lnF), .fn 87 [.gp σ.length 0 (some (24, 2)), .gp (σ.length + 1) 0 (some (3, 1))]] (σ ++ [[.str x1, .str x2], [.int .i64 x3]]) = some (.bool (l.any (isLn (x1, x2) x3)), σ ++ [[.str x1, .str x2], [.int .i64 x3]]) := fun σ => h1 _ _ _ _ _ (by simp) (by simp)
  clear h1
  have hW := fun b e => when_eq b e
  obtain ⟨E, hE⟩ : ∃ E : Int, (checkB x1 x2 : Int) = E := ⟨_, rfl⟩
  obtain ⟨b1, hb1⟩ : ∃ b, sumB x4 = b := ⟨_, rfl⟩
  obtain ⟨b2, hb2⟩ : ∃ b, l.any (isLn (x1, x2) x3) = b := ⟨_, rfl⟩
  rw [hE] at h5 ⊢
  rw [hb1] at h6 ⊢
  rw [hb2] at h3 ⊢
  simp only [List.map_cons, List.map_nil] at h7
  rw [lnFx]
  obtain ⟨L, hL⟩ : ∃ L, l.map lnF = L := ⟨_, rfl⟩
  rw [hL] at h3 ⊢
  refine EV_post rfl Tryz.func55 rfl (by simp [Tryz.ntmps55]) (by kernel_rfl) (by kernel_rfl) ?_
  simp (maxSteps := 4000000) [List.getElem?_cons_zero, List.getElem?_cons_succ, -regionA_true]
  refine Post_bndD [] _ (by rfl) (by simp (maxSteps := 4000000) [List.getElem?_cons_zero, List.getElem?_cons_succ, ]; exact rfl) ?_
  repeat (first
    | refine PostD_go _ (by rfl) (by rfl) (by simp (maxSteps := 4000000) [List.getElem?_cons_zero, List.getElem?_cons_succ, -getElem?_pos, h2, h3, h5, h6, hW, h7]; exact rfl) (by first | exact .inl rfl | exact .inr rfl) (by rfl) ?_
    | refine PostD_no1 _ (by rfl) (by rfl) (by simp (maxSteps := 4000000) [List.getElem?_cons_zero, List.getElem?_cons_succ, ]; exact rfl) ?_)
  refine PostD_end ?_
  simp (maxSteps := 4000000) [List.getElem?_cons_zero, List.getElem?_cons_succ, Tryz.results55]
end Go.Proofs.Tryz.Ai
end
section
/- sumfile: a line is read; a text is read line by line. -/
namespace Go.Proofs.Tryz.Ai
open Go Go.AI Go.Proofs Go.B64
set_option maxHeartbeats 8000000
set_option maxRecDepth 4000
set_option linter.unusedVariables false

def goMod : List UInt8 := [47, 103, 111, 46, 109, 111, 100]
def mkLn (p v h : List UInt8) : Ln := if goMod <:+ v then ((p, v.take (v.length - 7)), 1, h) else ((p, v), 0, h)
def lineR (l : List Ln) (s : List UInt8) : List Ln × Int := match splitB 32 s with
  | [p, v, h] => if p = [] ∨ v = [] ∨ h = [] then ([], 11) else (l ++ [mkLn p v h], checkL l (mkLn p v h))
  | _ => ([], 11)
theorem lineR_not {l : List Ln} {s : List UInt8} (h : (splitB 32 s).length ≠ 3) : lineR l s = ([], 11) := by
  unfold lineR
  split
  · rename_i h2; rw [h2] at h; exact absurd rfl h
  · rfl
theorem line_eq (l : List Ln) (hl : l.length ≤ 2 ^ 28) (s : List UInt8) (hs : s.length ≤ 2 ^ 28) (σ) :
    ev 51 [.sl (.ex 42 4) (l.map lnF), .str s] σ = some (.tup [.sl (.ex 42 4) ((lineR l s).1.map lnF), .int .i64 (lineR l s).2], σ) := by
  have hS := Split1_eq s (by omega) 32
  have hm := fun x (hx : x ∈ splitB 32 s) => splitB_le hx
  have hml := splitB_many 32 s
  have hR := lineR_not (l := l) (s := s)
  by_cases h3 : (splitB 32 s).length = 3
  · obtain ⟨p, v, h, hW⟩ : ∃ p v h, splitB 32 s = [p, v, h] := by
      match hq : splitB 32 s, h3 with
      | [p, v, h], _ => exact ⟨p, v, h, rfl⟩
    have hR2 : lineR l s = if p = [] ∨ v = [] ∨ h = [] then ([], 11) else (l ++ [mkLn p v h], checkL l (mkLn p v h)) := by unfold lineR; rw [hW]
    rw [hW] at hS hm
    have hC := ContainsT_eq [p, v, h] (by simp) []
    simp only [List.map_cons, List.map_nil] at hS hC
    by_cases he : p = [] ∨ v = [] ∨ h = []
    · rw [if_pos he] at hR2
      have ha : [p, v, h].any (([] : List UInt8) == ·) = true := by
        rcases he with rfl | rfl | rfl <;> simp
      rw [ha] at hC
      refine EV_post rfl Tryz.func51 rfl (by simp [Tryz.ntmps51]) (by kernel_rfl) (by kernel_rfl) ?_
      simp (maxSteps := 4000000) [List.getElem?_cons_zero, List.getElem?_cons_succ, hS, hC, hR2, Tryz.results51]
    · rw [if_neg he] at hR2
      have ha : [p, v, h].any (([] : List UInt8) == ·) = false := by
        simp only [not_or] at he
        have e1 : (([] : List UInt8) == p) = false := by rw [beq_eq_false_iff_ne]; exact fun e => he.1 e.symm
        have e2 : (([] : List UInt8) == v) = false := by rw [beq_eq_false_iff_ne]; exact fun e => he.2.1 e.symm
        have e3 : (([] : List UInt8) == h) = false := by rw [beq_eq_false_iff_ne]; exact fun e => he.2.2 e.symm
        simp only [List.any_cons, List.any_nil, e1, e2, e3, Bool.or_false]
      rw [ha] at hC
      have hv := hm v (by simp)
      have hX := CutSuffix_eq v [47, 103, 111, 46, 109, 111, 100] (by omega) (by simp)
      have hlm : l.length + 1 ≤ most := by unfold most; omega
      by_cases hg : goMod <:+ v
      · have hmk : mkLn p v h = ((p, v.take (v.length - 7)), 1, h) := by unfold mkLn; rw [if_pos hg]
        have hg' : [47, 103, 111, 46, 109, 111, 100] <:+ v := hg
        rw [if_pos hg', decide_eq_true hg'] at hX
        have hck := check_eq l (by omega) (mkLn p v h) (by rw [hmk]; exact ⟨by have := hm p (by simp); simp; omega, by simp; omega, by have := hm h (by simp); simp; omega⟩)
        rw [hmk] at hck hR2
        obtain ⟨V, hV⟩ : ∃ V, v.take (v.length - 7) = V := ⟨_, rfl⟩
        have hV' : v.take (v.length - ([47, 103, 111, 46, 109, 111, 100] : List UInt8).length) = V := hV
        rw [hV'] at hX
        rw [hV] at hck hR2
        obtain ⟨E, hE⟩ : ∃ E, checkL l ((p, V), 1, h) = E := ⟨_, rfl⟩
        rw [hE] at hck hR2
        rw [hR2]
        clear hR2 hR hV hV' hE hmk ha
        rw [lnFx] at hck
        obtain ⟨L, hL⟩ : ∃ L, l.map lnF = L := ⟨_, rfl⟩
        have hLl : L.length = l.length := by rw [← hL]; simp
        have hall : allCells 4 L := by rw [← hL]; simp
        have hfin : (l ++ [((p, V), (1 : Int), h)]).map lnF = L ++ [.agg [.str p, .str V, .int .i64 1, .str h]] := by rw [List.map_append, hL]; rfl
        rw [← hLl] at hlm
        simp only [hfin]
        rw [hL] at hck ⊢
        refine EV_post rfl Tryz.func51 rfl (by simp [Tryz.ntmps51]) (by kernel_rfl) (by kernel_rfl) ?_
        simp (maxSteps := 4000000) [List.getElem?_cons_zero, List.getElem?_cons_succ, -regionA_true, hS, hC, hX]
        refine Post_bndD [9] _ (by rfl) (by simp (maxSteps := 4000000) [List.getElem?_cons_zero, List.getElem?_cons_succ, ]; exact rfl) ?_
        repeat (first
          | refine PostD_go _ (by rfl) (by rfl) (by simp (maxSteps := 4000000) [List.getElem?_cons_zero, List.getElem?_cons_succ, ]; exact rfl) (by first | exact .inl rfl | exact .inr rfl) (by rfl) ?_
          | refine PostD_no1 _ (by rfl) (by rfl) (by simp (maxSteps := 4000000) [List.getElem?_cons_zero, List.getElem?_cons_succ, ]; exact rfl) ?_)
        refine PostD_end ?_
        simp (maxSteps := 4000000) [List.getElem?_cons_zero, List.getElem?_cons_succ, -regionA_true]
        refine Post_bndD [] _ (by rfl) (by simp (maxSteps := 4000000) [List.getElem?_cons_zero, List.getElem?_cons_succ, ]; exact rfl) ?_
        repeat (first
          | refine PostD_go _ (by rfl) (by rfl) (by simp (maxSteps := 4000000) [List.getElem?_cons_zero, List.getElem?_cons_succ, hck, hlm, hall]; exact rfl) (by first | exact .inl rfl | exact .inr rfl) (by rfl) ?_
          | refine PostD_no1 _ (by rfl) (by rfl) (by simp (maxSteps := 4000000) [List.getElem?_cons_zero, List.getElem?_cons_succ, ]; exact rfl) ?_)
        refine PostD_end ?_
        simp (maxSteps := 4000000) [List.getElem?_cons_zero, List.getElem?_cons_succ, Tryz.results51]
      · have hmk : mkLn p v h = ((p, v), 0, h) := by unfold mkLn; rw [if_neg hg]
        have hg' : ¬ [47, 103, 111, 46, 109, 111, 100] <:+ v := hg
        rw [if_neg hg', decide_eq_false hg'] at hX
        have hck := check_eq l (by omega) (mkLn p v h) (by rw [hmk]; exact ⟨by have := hm p (by simp); simp; omega, by simp; omega, by have := hm h (by simp); simp; omega⟩)
        rw [hmk] at hck hR2
        obtain ⟨E, hE⟩ : ∃ E, checkL l ((p, v), 0, h) = E := ⟨_, rfl⟩
        rw [hE] at hck hR2
        rw [hR2]
        clear hR2 hR hE hmk ha
        rw [lnFx] at hck
        obtain ⟨L, hL⟩ : ∃ L, l.map lnF = L := ⟨_, rfl⟩
        have hLl : L.length = l.length := by rw [← hL]; simp
        have hall : allCells 4 L := by rw [← hL]; simp
        have hfin : (l ++ [((p, v), (0 : Int), h)]).map lnF = L ++ [.agg [.str p, .str v, .int .i64 0, .str h]] := by rw [List.map_append, hL]; rfl
        rw [← hLl] at hlm
        simp only [hfin]
        rw [hL] at hck ⊢
        refine EV_post rfl Tryz.func51 rfl (by simp [Tryz.ntmps51]) (by kernel_rfl) (by kernel_rfl) ?_
        simp (maxSteps := 4000000) [List.getElem?_cons_zero, List.getElem?_cons_succ, -regionA_true, hS, hC, hX]
        refine Post_bndD [9] _ (by rfl) (by simp (maxSteps := 4000000) [List.getElem?_cons_zero, List.getElem?_cons_succ, ]; exact rfl) ?_
        repeat (first
          | refine PostD_go _ (by rfl) (by rfl) (by simp (maxSteps := 4000000) [List.getElem?_cons_zero, List.getElem?_cons_succ, ]; exact rfl) (by first | exact .inl rfl | exact .inr rfl) (by rfl) ?_
          | refine PostD_no1 _ (by rfl) (by rfl) (by simp (maxSteps := 4000000) [List.getElem?_cons_zero, List.getElem?_cons_succ, ]; exact rfl) ?_)
        refine PostD_end ?_
        simp (maxSteps := 4000000) [List.getElem?_cons_zero, List.getElem?_cons_succ, -regionA_true]
        refine Post_bndD [] _ (by rfl) (by simp (maxSteps := 4000000) [List.getElem?_cons_zero, List.getElem?_cons_succ, ]; exact rfl) ?_
        repeat (first
          | refine PostD_go _ (by rfl) (by rfl) (by simp (maxSteps := 4000000) [List.getElem?_cons_zero, List.getElem?_cons_succ, hck, hlm, hall]; exact rfl) (by first | exact .inl rfl | exact .inr rfl) (by rfl) ?_
          | refine PostD_no1 _ (by rfl) (by rfl) (by simp (maxSteps := 4000000) [List.getElem?_cons_zero, List.getElem?_cons_succ, ]; exact rfl) ?_)
        refine PostD_end ?_
        simp (maxSteps := 4000000) [List.getElem?_cons_zero, List.getElem?_cons_succ, Tryz.results51]
  · rw [hR h3]
    have hWl : ¬ (((splitB 32 s).length : Nat) : Int) = 3 := by omega
    obtain ⟨W, hW⟩ : ∃ W, splitB 32 s = W := ⟨_, rfl⟩
    rw [hW] at hS hWl h3
    refine EV_post rfl Tryz.func51 rfl (by simp [Tryz.ntmps51]) (by kernel_rfl) (by kernel_rfl) ?_
    simp (maxSteps := 4000000) [List.getElem?_cons_zero, List.getElem?_cons_succ, hS, hWl, h3, Tryz.results51]
end Go.Proofs.Tryz.Ai
end
section
/- sumfile: a text is read line by line. -/
namespace Go.Proofs.Tryz.Ai
open Go Go.AI Go.Proofs Go.B64
set_option maxHeartbeats 8000000
set_option maxRecDepth 4000
set_option linter.unusedVariables false

def linesAV (r : List Ln ⊕ (Nat × Int)) : AV := match r with
  | .inl l => .tup [.sl .sh (l.map lnF), .int .i64 0, .int .i64 0]
  | .inr (n, e) => .tup [.sl .sh [], .int .i64 n, .int .i64 e]
theorem lines_eq (text : List UInt8) (hs : text.length ≤ 2 ^ 27) (g : FuncId) (hg : g < 100000) (cap : List AV) (read : List Ln → List UInt8 → List Ln × Int)
    (hlen : ∀ l s, (read l s).1.length ≤ l.length + 1)
    (h : ∀ (l : List Ln) (s : List UInt8) (σ : List (List AV)), l.length ≤ 2 ^ 28 → s.length ≤ 2 ^ 28 → ev g (.sl (.ex 42 4) (l.map lnF) :: .str s :: cap) σ = some (.tup [.sl (.ex 42 4) ((read l s).1.map lnF), .int .i64 (read l s).2], σ)) (σ : List (List AV)) :
    ev 50 [.str text, .fn g cap] σ = some (if 65536 < text.length then .tup [.sl .sh [], .int .i64 0, .int .i64 13] else linesAV (linesP read [] 0 (splitB 10 text)), σ) := by
  refine EV_post rfl Tryz.func50 rfl (by simp [Tryz.ntmps50]) (by kernel_rfl) (by kernel_rfl) ?_
  by_cases hc : 65536 < text.length
  · rw [if_pos hc]
    simp (maxSteps := 4000000) [List.getElem?_cons_zero, List.getElem?_cons_succ, hc, Tryz.results50]
  rw [if_neg hc]
  obtain ⟨R, hR⟩ : ∃ R, linesP read [] 0 (splitB 10 text) = R := ⟨_, rfl⟩
  rw [hR]
  simp (maxSteps := 4000000) [List.getElem?_cons_zero, List.getElem?_cons_succ, hc]
  refine Post_loop (I := fun q : List Ln × Nat × List UInt8 => ⟨[(1, .fn g cap), (7, .sl (.ex 42 4) (q.1.map lnF)), (8, .int .i64 q.2.1), (9, .str q.2.2)], [], σ⟩)
    (Pr := fun q => q.1.length ≤ q.2.1 ∧ q.2.1 + q.2.2.length ≤ text.length ∧ linesP read q.1 q.2.1 (splitB 10 q.2.2) = R) (μ := fun q => q.2.2.length) (a := ([], 0, text)) (by simp) ⟨by simp, by simp, hR⟩ ?_
  rintro ⟨l, n, rest⟩ ⟨h1, h2, h3⟩
  simp only at h1 h2 h3 ⊢
  by_cases hr : rest = []
  · subst hr
    have : R = .inl l := by rw [← h3]; rfl
    have hA : linesAV R = .tup [.sl .sh (l.map lnF), .int .i64 0, .int .i64 0] := by rw [this]; rfl
    simp (maxSteps := 4000000) [List.getElem?_cons_zero, List.getElem?_cons_succ, hA, Tryz.results50]
  · have hrn : (rest == []) = false := by simpa using hr
    have w1 : IntKind.i64.wrap ((n : Int) + 1) = ((n + 1 : Nat) : Int) := by rw [wrap64 (by omega)]; omega
    have hC := Cut1_eq rest (by omega) 10
    have hW := fun b e => when_eq b e
    have hF := fun a b => sfirst_eq [a, b] (by simp)
    simp only [List.map_cons, List.map_nil] at hF
    cases hi : ix 10 rest with
    | none =>
      have hcut : cutB 10 rest = (rest, [], false) := by unfold cutB; rw [hi]
      rw [hcut] at hC
      rw [splitB_none hi] at h3
      have hv := h l rest
      have hv := fun σ => hv σ (by omega) (by omega)
      obtain ⟨l', hl'⟩ : ∃ l', (read l rest).1 = l' := ⟨_, rfl⟩
      obtain ⟨e, he⟩ : ∃ e, (read l rest).2 = e := ⟨_, rfl⟩
      rw [hl', he] at hv
      by_cases he0 : e = 0
      · have : R = .inr (n + 1, 11) := by rw [← h3, linesP_end hr (by rw [he, he0])]
        have hA : linesAV R = .tup [.sl .sh [], .int .i64 ((n + 1 : Nat) : Int), .int .i64 11] := by rw [this]; rfl
        have hf : fstE [e, 11] = 11 := by rw [he0]; rfl
        simp (maxSteps := 4000000) [List.getElem?_cons_zero, List.getElem?_cons_succ, -Prod.forall, hrn, hC, hg, hv, hW, hF, hf, w1, hA, Tryz.results50]
      · have : R = .inr (n + 1, e) := by rw [← h3, linesP_bad (.inl hr) (by rw [he]; exact he0), he]
        have hA : linesAV R = .tup [.sl .sh [], .int .i64 ((n + 1 : Nat) : Int), .int .i64 e] := by rw [this]; rfl
        have hf : fstE [e, 11] = e := by simp [fstE, orI, he0]
        simp (maxSteps := 4000000) [List.getElem?_cons_zero, List.getElem?_cons_succ, -Prod.forall, hrn, hC, hg, hv, hW, hF, hf, he0, w1, hA, Tryz.results50]
    | some k =>
      have hcut : cutB 10 rest = (rest.take k, rest.drop (k + 1), true) := by unfold cutB; rw [hi]
      rw [hcut] at hC
      rw [splitB_ix hi] at h3
      have hk := (ix_some hi).1
      obtain ⟨s, hs1⟩ : ∃ s, rest.take k = s := ⟨_, rfl⟩
      obtain ⟨b, hb⟩ : ∃ b, rest.drop (k + 1) = b := ⟨_, rfl⟩
      have hsl : s.length ≤ rest.length := by rw [← hs1]; simp; omega
      have hbl : b.length + 1 ≤ rest.length := by rw [← hb]; simp; omega
      rw [hs1, hb] at hC h3
      have hv := h l s
      have hv := fun σ => hv σ (by omega) (by omega)
      have hln := hlen l s
      obtain ⟨l', hl'⟩ : ∃ l', (read l s).1 = l' := ⟨_, rfl⟩
      obtain ⟨e, he⟩ : ∃ e, (read l s).2 = e := ⟨_, rfl⟩
      rw [hl', he] at hv
      rw [hl'] at hln
      have hne := splitB_ne 10 b
      by_cases he0 : e = 0
      · have h3 : linesP read l' (n + 1) (splitB 10 b) = R := by rw [← h3, linesP_next hne (by rw [he, he0]), hl']
        have hf : fstE [e, 0] = 0 := by rw [he0]; rfl
        simp (maxSteps := 4000000) [List.getElem?_cons_zero, List.getElem?_cons_succ, -Prod.forall, -Prod.exists, hrn, hC, hg, hv, hW, hF, hf, w1]
        exact ⟨(l', n + 1, b), ⟨by simp; omega, by simp; omega, h3⟩, by simp; omega, by simp⟩
      · have : R = .inr (n + 1, e) := by rw [← h3, linesP_bad (.inr hne) (by rw [he]; exact he0), he]
        have hA : linesAV R = .tup [.sl .sh [], .int .i64 ((n + 1 : Nat) : Int), .int .i64 e] := by rw [this]; rfl
        have hf : fstE [e, 0] = e := by simp [fstE, orI, he0]
        simp (maxSteps := 4000000) [List.getElem?_cons_zero, List.getElem?_cons_succ, -Prod.forall, hrn, hC, hg, hv, hW, hF, hf, he0, w1, hA, Tryz.results50]
end Go.Proofs.Tryz.Ai
end
section
/- The document's order of versions. -/
namespace Go.Proofs.Tryz.Ai
open Go Go.AI Go.Proofs
set_option maxHeartbeats 2000000
set_option linter.unusedVariables false

theorem rtexts_eq (a b : List UInt8) (σ) : ev 194 [.str a, .str b] σ = some (.int .i64 (bytesC a b), σ) := by
  refine EV_post rfl Tryz.func194 rfl (by simp [Tryz.ntmps194]) (by kernel_rfl) (by kernel_rfl) ?_
  have h1 := Go.AI.bytesLess_eq a b
  have ht := TO.bytes
  rcases ht.sgn a b with h | h | h
  · have hb : Op.bytesLess a b = true := by rw [h1, h]; rfl
    simp (maxSteps := 4000000) [List.getElem?_cons_zero, List.getElem?_cons_succ, hb, h, Tryz.results194]
  · have hab := ht.eq _ _ h
    have hb : Op.bytesLess a b = false := by rw [h1, h]; rfl
    rw [h]
    subst hab
    simp (maxSteps := 4000000) [List.getElem?_cons_zero, List.getElem?_cons_succ, hb, Tryz.results194]
  · have hb : Op.bytesLess a b = false := by rw [h1, h]; rfl
    have hab : (a == b) = false := by
      rw [beq_eq_false_iff_ne]; intro e; subst e
      rw [ht.refl] at h; cases h
    have hab2 : ¬ a = b := by simpa using hab
    simp (maxSteps := 4000000) [List.getElem?_cons_zero, List.getElem?_cons_succ, hb, hab, hab2, h, Tryz.results194]
theorem rorder_eq (a b : Nat) (σ) : ev 195 [.int .i64 a, .int .i64 b] σ = some (.int .i64 (natC a b), σ) := by
  refine EV_post rfl Tryz.func195 rfl (by simp [Tryz.ntmps195]) (by kernel_rfl) (by kernel_rfl) ?_
  unfold natC
  by_cases h : a < b
  · simp (maxSteps := 4000000) [List.getElem?_cons_zero, List.getElem?_cons_succ, h, Tryz.results195]
  · by_cases h2 : b < a
    · simp (maxSteps := 4000000) [List.getElem?_cons_zero, List.getElem?_cons_succ, h, h2, Tryz.results195]
    · simp (maxSteps := 4000000) [List.getElem?_cons_zero, List.getElem?_cons_succ, h, h2, Tryz.results195]
theorem rids_eq (a b : List UInt8) (ha : a.length ≤ 2 ^ 30) (hb : b.length ≤ 2 ^ 30) (σ) : ev 197 [.str a, .str b] σ = some (.int .i64 (idC a b), σ) := by
  have h1 := rdigits_eq a (by omega)
  have h2 := rdigits_eq b (by omega)
  have h3 := rtexts_eq a b
  have h4 := rorder_eq a.length b.length
  refine EV_post rfl Tryz.func197 rfl (by simp [Tryz.ntmps197]) (by kernel_rfl) (by kernel_rfl) ?_
  have hI : idC a b = if allB isD a = true then (if allB isD b = true then orI (natC a.length b.length) (bytesC a b) else -1) else if allB isD b = true then 1 else bytesC a b := rfl
  cases e1 : allB isD a <;> cases e2 : allB isD b <;> rw [e1] at h1 hI <;> rw [e2] at h2 hI
  · simp at hI
    simp (maxSteps := 4000000) [List.getElem?_cons_zero, List.getElem?_cons_succ, h1, h2, h3, hI, Tryz.results197]
  · simp at hI
    simp (maxSteps := 4000000) [List.getElem?_cons_zero, List.getElem?_cons_succ, h1, h2, hI, Tryz.results197]
  · simp at hI
    simp (maxSteps := 4000000) [List.getElem?_cons_zero, List.getElem?_cons_succ, h1, h2, hI, Tryz.results197]
  · simp only [if_true] at hI
    by_cases hl : a.length = b.length
    · have : orI (natC a.length b.length) (bytesC a b) = bytesC a b := by rw [hl]; simp [orI, natC]
      rw [this] at hI
      simp (maxSteps := 4000000) [List.getElem?_cons_zero, List.getElem?_cons_succ, h1, h2, h3, hl, hI, Tryz.results197]
    · have : orI (natC a.length b.length) (bytesC a b) = natC a.length b.length := by
        unfold orI natC; rcases Nat.lt_or_ge a.length b.length with q | q
        · simp [q]
        · have q2 : b.length < a.length := by omega
          have q3 : ¬ a.length < b.length := by omega
          simp [q3, q2]
      rw [this] at hI
      simp (maxSteps := 4000000) [List.getElem?_cons_zero, List.getElem?_cons_succ, h1, h2, h4, hl, hI, Tryz.results197]
theorem natC_ne {a b : Nat} (h : ¬ a = b) (y : Int) : orI (natC a b) y = natC a b := by
  have : ¬ natC a b = 0 := by
    unfold natC
    by_cases q : a < b
    · simp [q]
    · have : b < a := by omega
      simp [q, this]
  unfold orI; rw [if_neg this]
theorem natC_same {a : Nat} (y : Int) : orI (natC a a) y = y := by
  have : natC a a = 0 := by simp [natC]
  unfold orI; rw [if_pos this]
theorem rsign_eq (b : Bool) (σ) : ev 196 [.bool b] σ = some (.int .i64 (if b then 0 else 1), σ) := by
  refine EV_post rfl Tryz.func196 rfl (by simp [Tryz.ntmps196]) (by kernel_rfl) (by kernel_rfl) ?_
  cases b <;> simp (maxSteps := 4000000) [List.getElem?_cons_zero, List.getElem?_cons_succ, Tryz.results196]
theorem rCompare_eq (a b : List UInt8) (ha : a.length ≤ 2 ^ 30) (hb : b.length ≤ 2 ^ 30) (σ) : ev 158 [.str a, .str b] σ = some (.int .i64 (cmpB a b), σ) := by
  have pa := rParts_eq a ha
  have pb := rParts_eq b hb
  have ht := rtexts_eq a b
  have w0 : IntKind.i64.wrap (-1) = -1 := by decide
  refine EV_post rfl Tryz.func158 rfl (by simp [Tryz.ntmps158]) (by kernel_rfl) (by kernel_rfl) ?_
  cases e1 : readB a with
  | none =>
    rw [e1] at pa
    cases e2 : readB b with
    | none =>
      rw [e2] at pb
      have hC : cmpB a b = bytesC a b := by unfold cmpB; rw [e1, e2]
      simp (maxSteps := 4000000) [List.getElem?_cons_zero, List.getElem?_cons_succ, pa, pb, rpartsA, ht, hC, Tryz.results158]
    | some y =>
      rw [e2] at pb
      have hC : cmpB a b = -1 := by unfold cmpB; rw [e1, e2]
      simp (maxSteps := 4000000) [List.getElem?_cons_zero, List.getElem?_cons_succ, pa, pb, rpartsA, hC, Tryz.results158]
  | some x =>
    rw [e1] at pa
    cases e2 : readB b with
    | none =>
      rw [e2] at pb
      have hC : cmpB a b = 1 := by unfold cmpB; rw [e1, e2]
      simp (maxSteps := 4000000) [List.getElem?_cons_zero, List.getElem?_cons_succ, pa, pb, rpartsA, hC, Tryz.results158]
    | some y =>
      rw [e2] at pb
      have hC : cmpB a b = orI (natC x.ma y.ma) (orI (natC x.mi y.mi) (orI (natC x.pa y.pa) (presC x.pre y.pre))) := by unfold cmpB; rw [e1, e2]; rfl
      by_cases g1 : x.ma = y.ma
      · rw [g1, natC_same] at hC
        by_cases g2 : x.mi = y.mi
        · rw [g2, natC_same] at hC
          by_cases g3 : x.pa = y.pa
          · rw [g3, natC_same] at hC
            have hpl : x.pre.length ≤ 60 ∧ y.pre.length ≤ 60 := by
              have rx := readB_some e1
              have ry := readB_some e2
              have := congrArg List.length rx.text
              have := congrArg List.length ry.text
              have := rx.len
              have := ry.len
              unfold verT at *
              constructor
              · split at * <;> split at * <;> simp_all <;> omega
              · split at * <;> split at * <;> simp_all <;> omega
            simp only [rpartsA] at pa pb
            generalize x.pre = p at *
            generalize y.pre = q at *
            by_cases g4 : p = [] ∨ q = []
            · have ho := rorder_eq q.length p.length
              cases p with
              | nil =>
                cases q with
                | nil =>
                  have hC : cmpB a b = 0 := by rw [hC]; simp [presC, natC]
                  have s1 : ∀ σ, ev 196 [.bool true] σ = some (.int .i64 0, σ) := rsign_eq true
                  have s2 : IntKind.i64.wrap 0 = 0 := by decide
                  have ho' : ∀ σ, ev 195 [.int .i64 0, .int .i64 0] σ = some (.int .i64 0, σ) := ho
                  simp (maxSteps := 4000000) [List.getElem?_cons_zero, List.getElem?_cons_succ, pa, pb, g1, g2, g3, hC, ho', s1, s2, Tryz.results158]
                | cons c q =>
                  have hC : cmpB a b = 1 := by rw [hC]; simp [presC, natC]
                  have s1 : ∀ σ, ev 196 [.bool false] σ = some (.int .i64 1, σ) := rsign_eq false
                  have s2 : IntKind.i64.wrap 1 = 1 := by decide
                  have ho' : ∀ σ, ev 195 [.int .i64 ((q.length : Int) + 1), .int .i64 0] σ = some (.int .i64 1, σ) := ho
                  simp (maxSteps := 4000000) [List.getElem?_cons_zero, List.getElem?_cons_succ, pa, pb, g1, g2, g3, hC, ho', s1, s2, Tryz.results158]
              | cons c p =>
                have hq : q = [] := by simpa using g4
                subst hq
                have hC : cmpB a b = -1 := by rw [hC]; simp [presC, natC]
                have s1 : ∀ σ, ev 196 [.bool false] σ = some (.int .i64 1, σ) := rsign_eq false
                have s2 : IntKind.i64.wrap (-1) = -1 := by decide
                have ho' : ∀ σ, ev 195 [.int .i64 0, .int .i64 ((p.length : Int) + 1)] σ = some (.int .i64 (-1), σ) := ho
                simp (maxSteps := 4000000) [List.getElem?_cons_zero, List.getElem?_cons_succ, pa, pb, g1, g2, g3, hC, ho', s1, s2, Tryz.results158]
            · have g5 : ¬ p = [] := fun e => g4 (.inl e)
              have g6 : ¬ q = [] := fun e => g4 (.inr e)
              have g5' : p.isEmpty = false := by simpa using g5
              have g6' : q.isEmpty = false := by simpa using g6
              have hC : cmpB a b = lexC idC (splitB 46 p) (splitB 46 q) := by rw [hC]; unfold presC; rw [if_neg g4]
              have hc1 := Cut_eq p (by omega) 46
              have hc2 := Cut_eq q (by omega) 46
              have hc1' : ∀ σ, ev 37 [.str p, .int .u8 46] σ = some (.sl (.ex 9 1) ((splitB 46 p).map .str), σ) := hc1
              have hc2' : ∀ σ, ev 37 [.str q, .int .u8 46] σ = some (.sl (.ex 9 1) ((splitB 46 q).map .str), σ) := hc2
              have hlp : ∀ s ∈ splitB 46 p, s.length ≤ 60 := fun s hs => by have := splitB_le hs; omega
              have hlq : ∀ s ∈ splitB 46 q, s.length ≤ 60 := fun s hs => by have := splitB_le hs; omega
              have hnp : (splitB 46 p).length ≤ 61 := by have := splitB_many 46 p; omega
              have hnq : (splitB 46 q).length ≤ 61 := by have := splitB_many 46 q; omega
              generalize splitB 46 p = l at *
              generalize splitB 46 q = m at *
              simp (maxSteps := 4000000) [List.getElem?_cons_zero, List.getElem?_cons_succ, pa, pb, g1, g2, g3, g5, g6, g5', g6', hc1', hc2']
              refine Post_loop (I := fun i : Nat => ⟨[(15, .sl (.ex 9 1) (l.map .str)), (16, .sl (.ex 9 1) (m.map .str)), (17, .int .i64 i)], [], σ⟩) (Pr := fun i => i ≤ l.length ∧ i ≤ m.length ∧ lexC idC l m = lexC idC (l.drop i) (m.drop i)) (μ := fun i => l.length - i) (a := 0) (by simp) (by simp) ?_
              rintro i ⟨i1, i2, i3⟩
              by_cases k1 : i < l.length
              · by_cases k2 : i < m.length
                · obtain ⟨x', hx⟩ : ∃ z, l[i]? = some z := ⟨_, List.getElem?_eq_getElem k1⟩
                  obtain ⟨y', hy⟩ : ∃ z, m[i]? = some z := ⟨_, List.getElem?_eq_getElem k2⟩
                  have hdl : l.drop i = x' :: l.drop (i + 1) := by rw [List.drop_eq_getElem_cons k1]; congr 1; exact (List.getElem?_eq_some_iff.1 hx).2
                  have hdm : m.drop i = y' :: m.drop (i + 1) := by rw [List.drop_eq_getElem_cons k2]; congr 1; exact (List.getElem?_eq_some_iff.1 hy).2
                  have hi := rids_eq x' y' (by have := hlp x' (List.mem_of_getElem? hx); omega) (by have := hlq y' (List.mem_of_getElem? hy); omega)
                  have w1 : IntKind.i64.wrap ((i : Int) + 1) = (i : Int) + 1 := wrap64 (by omega)
                  rw [hdl, hdm, lexC] at i3
                  by_cases hz : idC x' y' = 0
                  · rw [hz] at i3
                    simp only [orI, if_true] at i3
                    simp (maxSteps := 4000000) [List.getElem?_cons_zero, List.getElem?_cons_succ, -getElem?_pos, k1, k2, hx, hy, hi, hz, w1]
                    exact ⟨i + 1, ⟨by omega, by omega, i3⟩, by omega, by omega⟩
                  · simp only [orI, if_neg hz] at i3
                    simp (maxSteps := 4000000) [List.getElem?_cons_zero, List.getElem?_cons_succ, -getElem?_pos, k1, k2, hx, hy, hi, hz, hC, i3, Tryz.results158]
                · have ho := rorder_eq l.length m.length
                  have e3 : lexC idC l m = natC l.length m.length := by
                    rw [i3, List.drop_of_length_le (show m.length ≤ i by omega), List.drop_eq_getElem_cons k1]
                    have : m.length < l.length := by omega
                    simp [lexC, natC]; omega
                  simp (maxSteps := 4000000) [List.getElem?_cons_zero, List.getElem?_cons_succ, k1, k2, ho, hC, e3, Tryz.results158]
              · have ho := rorder_eq l.length m.length
                have e3 : lexC idC l m = natC l.length m.length := by
                  rw [i3, List.drop_of_length_le (show l.length ≤ i by omega)]
                  by_cases k2 : i < m.length
                  · rw [List.drop_eq_getElem_cons k2]
                    have : l.length < m.length := by omega
                    simp [lexC, natC]; omega
                  · rw [List.drop_of_length_le (show m.length ≤ i by omega)]
                    have : l.length = m.length := by omega
                    simp [lexC, natC, this]
                simp (maxSteps := 4000000) [List.getElem?_cons_zero, List.getElem?_cons_succ, k1, ho, hC, e3, Tryz.results158]
          · rw [natC_ne g3] at hC
            have ho := rorder_eq x.pa y.pa
            simp (maxSteps := 4000000) [List.getElem?_cons_zero, List.getElem?_cons_succ, pa, pb, rpartsA, g1, g2, g3, hC, ho, Tryz.results158]
        · rw [natC_ne g2] at hC
          have ho := rorder_eq x.mi y.mi
          simp (maxSteps := 4000000) [List.getElem?_cons_zero, List.getElem?_cons_succ, pa, pb, rpartsA, g1, g2, hC, ho, Tryz.results158]
      · rw [natC_ne g1] at hC
        have ho := rorder_eq x.ma y.ma
        simp (maxSteps := 4000000) [List.getElem?_cons_zero, List.getElem?_cons_succ, pa, pb, rpartsA, g1, hC, ho, Tryz.results158]
end Go.Proofs.Tryz.Ai
end
section
/- The order of modules. -/
namespace Go.Proofs.Tryz.Ai
open Go Go.AI Go.Proofs
set_option maxHeartbeats 2000000
set_option linter.unusedVariables false

def modA (m : List UInt8 × List UInt8) : AV := .agg [.str m.1, .str m.2]
def modC (a b : List UInt8 × List UInt8) : Int := orI (bytesC a.1 b.1) (cmpB a.2 b.2)
theorem TO.modC : TO modC := TO.bytes.prod TO.cmp
def modQ (m : List UInt8 × List UInt8) : Prop := m.1.length ≤ 2 ^ 30 ∧ m.2.length ≤ 2 ^ 30
theorem order_eqM (a b : List UInt8 × List UInt8) (ha : modQ a) (hb : modQ b) (σ) : ev 129 [.agg [.str a.1, .str a.2], .agg [.str b.1, .str b.2]] σ = some (.int .i64 (modC a b), σ) := by
  have h1 := Compare_eq a.1 b.1
  have h2 := cmpB_eq a.2 b.2 ha.2 hb.2
  have h3 := cmpOr_eq [bytesC a.1 b.1, cmpB a.2 b.2] (by simp)
  have h4 : modC a b = orL [bytesC a.1 b.1, cmpB a.2 b.2] := by
    unfold modC
    simp only [orL, List.foldr, orI]
    split
    · split
      · assumption
      · rfl
    · rfl
  simp only [List.map_cons, List.map_nil] at h3
  refine EV_post rfl Tryz.func129 rfl (by simp [Tryz.ntmps129]) (by kernel_rfl) (by kernel_rfl) ?_
  simp (maxSteps := 4000000) [List.getElem?_cons_zero, List.getElem?_cons_succ, h1, h2, h3, h4, Tryz.results129]
theorem Less_eq (a b : List UInt8 × List UInt8) (ha : modQ a) (hb : modQ b) (σ) : ev 84 [.agg [.str a.1, .str a.2], .agg [.str b.1, .str b.2]] σ = some (.bool (decide (modC a b < 0)), σ) := by
  have h := order_eqM a b ha hb
  refine EV_post rfl Tryz.func84 rfl (by simp [Tryz.ntmps84]) (by kernel_rfl) (by kernel_rfl) ?_
  simp (maxSteps := 4000000) [List.getElem?_cons_zero, List.getElem?_cons_succ, h, Tryz.results84]
theorem rLess_eq (a b : List UInt8 × List UInt8) (ha : modQ a) (hb : modQ b) (σ) : ev 127 [.agg [.str a.1, .str a.2], .agg [.str b.1, .str b.2]] σ = some (.bool (decide (modC a b < 0)), σ) := by
  have h2 := rCompare_eq a.2 b.2 ha.2 hb.2
  have hl := Go.AI.bytesLess_eq a.1 b.1
  refine EV_post rfl Tryz.func127 rfl (by simp [Tryz.ntmps127]) (by kernel_rfl) (by kernel_rfl) ?_
  by_cases h : a.1 = b.1
  · have h0 : (a.1 == b.1) = true := by simpa using h
    have hm : modC a b = cmpB a.2 b.2 := by unfold modC; rw [h, TO.bytes.refl]; simp [orI]
    simp (maxSteps := 4000000) [List.getElem?_cons_zero, List.getElem?_cons_succ, h0, h, h2, hm, Tryz.results127]
  · have h0 : (a.1 == b.1) = false := by simpa using h
    have hm : modC a b = bytesC a.1 b.1 := by unfold modC orI; rw [if_neg (fun e => h (TO.bytes.eq _ _ e))]
    simp (maxSteps := 4000000) [List.getElem?_cons_zero, List.getElem?_cons_succ, h0, h, hl, hm, Tryz.results127]
end Go.Proofs.Tryz.Ai
end
section
/- Sorting a row of texts: exchanges. -/
namespace Go.Proofs.Tryz.Ai
open Go Go.AI Go.Proofs
set_option maxHeartbeats 1000000
set_option linter.unusedVariables false

def es : List UInt8 → List AV := fun x => [.str x]
end Go.Proofs.Tryz.Ai
end
section
/- Sorting a row of texts: insertion, rotation. -/
namespace Go.Proofs.Tryz.Ai
open Go Go.AI Go.Proofs
set_option maxHeartbeats 400000
set_option linter.unusedVariables false

/-- a function that compares -/
structure CmpOk (g : Nat) (c : List UInt8 → List UInt8 → Int) (Q : List UInt8 → Prop) : Prop where
  tp : TP c
  lt : g < 100000
  run : ∀ x y, Q x → Q y → ∀ σ, ev g [.str x, .str y] σ = some (.int .i64 (c x y), σ)
end Go.Proofs.Tryz.Ai
end
section
/- Sorting a row of texts: rotation. -/
namespace Go.Proofs.Tryz.Ai
open Go Go.AI Go.Proofs
set_option maxHeartbeats 400000
set_option linter.unusedVariables false

end Go.Proofs.Tryz.Ai
end
section
/- Sorting a row of texts: merging. -/
namespace Go.Proofs.Tryz.Ai
open Go Go.AI Go.Proofs
set_option maxHeartbeats 400000
set_option linter.unusedVariables false

theorem half_w {i j : Nat} (h : i + j ≤ 2 ^ 31) : IntKind.i64.wrap ((i : Int) + j) = ((i + j : Nat) : Int) ∧ IntKind.u64.wrap (((i + j : Nat) : Int)) = ((i + j : Nat) : Int) ∧ Int.fdiv ((i + j : Nat) : Int) (2 ^ min 1 IntKind.u64.bits) = (((i + j) / 2 : Nat) : Int) ∧ IntKind.i64.wrap (((i + j) / 2 : Nat) : Int) = (((i + j) / 2 : Nat) : Int) := by
  refine ⟨by rw [wrap64 (by omega)]; omega, wrapU64 (by omega), by rw [show ((2 : Int) ^ min 1 IntKind.u64.bits) = 2 from by decide, Int.fdiv_eq_ediv_of_nonneg _ (by omega)]; omega, wrap64 (by omega)⟩
end Go.Proofs.Tryz.Ai
end
section
/- Sorting a row of texts: merging two rows. -/
namespace Go.Proofs.Tryz.Ai
open Go Go.AI Go.Proofs
set_option maxHeartbeats 2000000
set_option linter.unusedVariables false

theorem Post_of_eq {o : Option (Ex × St)} {st2 : St} {K : Ex → St → Prop} (e : o = some (.normal, st2)) (k : K .normal st2) : Post o K := ⟨_, _, e, k⟩
theorem cut_nums {l r a m e N : Nat} (hm : m = a + l) (he : e = m + r) (heN : e ≤ N) (hN : N ≤ 2 ^ 30) (hl : 2 ≤ l) (hr : 2 ≤ r) : ∃ mid nn p0 S0 S1 : Nat,
    (a ≤ S0 ∧ S0 ≤ S1 ∧ S1 ≤ mid ∧ S1 ≤ m ∧ mid ≤ S0 + r ∧ (S0 = a ∨ mid = S0 + r) ∧ (S1 = mid ∨ S1 = m) ∧ nn = mid + m ∧ p0 + 1 = nn ∧ a < mid ∧ mid < e) ∧
    IntKind.i64.wrap ((a : Int) + e) = ((a + e : Nat) : Int) ∧ IntKind.u64.wrap (((a + e : Nat) : Int)) = ((a + e : Nat) : Int) ∧ Int.fdiv ((a + e : Nat) : Int) (2 ^ min 1 IntKind.u64.bits) = (mid : Int) ∧ IntKind.i64.wrap (mid : Int) = (mid : Int) ∧
    IntKind.i64.wrap ((mid : Int) + m) = (nn : Int) ∧ IntKind.i64.wrap ((nn : Int) - 1) = (p0 : Int) ∧ (mid < m → IntKind.i64.wrap ((nn : Int) - e) = (S0 : Int) ∧ S1 = mid) ∧ (¬ mid < m → S0 = a ∧ S1 = m) := by
  have hmw := half_w (i := a) (j := e) (by omega)
  obtain ⟨h1, h2, h3, h4⟩ := hmw
  refine ⟨(a + e) / 2, (a + e) / 2 + m, (a + e) / 2 + m - 1, if (a + e) / 2 < m then (a + e) / 2 + m - e else a, if (a + e) / 2 < m then (a + e) / 2 else m, ?_, h1, h2, h3, h4, ?_, ?_, fun q => ?_, fun q => ?_⟩
  · clear h1 h2 h3 h4
    split <;> omega
  · rw [wrap64 (by omega)]; omega
  · rw [wrap64 (by omega)]; omega
  · rw [if_pos q, if_pos q]; exact ⟨by rw [wrap64 (by omega)]; omega, rfl⟩
  · rw [if_neg q, if_neg q]; exact ⟨rfl, rfl⟩
end Go.Proofs.Tryz.Ai
end
section
/- Sorting a row of texts: all of it. -/
namespace Go.Proofs.Tryz.Ai
open Go Go.AI Go.Proofs
set_option maxHeartbeats 2000000
set_option linter.unusedVariables false

end Go.Proofs.Tryz.Ai
end
section
/- Sorting a row of texts: exchanges. -/
namespace Go.Proofs.Tryz.Ai
open Go Go.AI Go.Proofs
set_option maxHeartbeats 1000000
set_option linter.unusedVariables false

def esL : (List UInt8 × List UInt8) × Int × List UInt8 → List AV := fun x => [.str x.1.1, .str x.1.2, .int .i64 x.2.1, .str x.2.2]
@[simp] theorem es_demL {D : List ((List UInt8 × List UInt8) × Int × List UInt8)} : (rowE esL D).map dem = rowE esL D := by
  induction D with
  | nil => rfl
  | cons a D ih => unfold rowE at *; rw [List.flatMap_cons, List.map_append, ih]; rfl
theorem es_getL {D : List ((List UInt8 × List UInt8) × Int × List UInt8)} {i : Nat} {x : (List UInt8 × List UInt8) × Int × List UInt8} (h : D[i]? = some x) : ((rowE esL D).drop (i * 4)).take 4 = [.str x.1.1, .str x.1.2, .int .i64 x.2.1, .str x.2.2] := by
  have := rowE_get (E := esL) (sz := 4) (fun _ => rfl) (fun _ => rfl) h
  rwa [List.map_take, List.map_drop, es_demL] at this
theorem es_bndL {D : List ((List UInt8 × List UInt8) × Int × List UInt8)} {i : Nat} {x : (List UInt8 × List UInt8) × Int × List UInt8} (h : D[i]? = some x) : i * 4 + 4 ≤ (rowE esL D).length := by
  have := (List.getElem?_eq_some_iff.1 h).1
  rw [rowE_len (E := esL) (sz := 4) (fun _ => rfl) D]; omega
theorem es_setL {D : List ((List UInt8 × List UInt8) × Int × List UInt8)} {i : Nat} {y : (List UInt8 × List UInt8) × Int × List UInt8} (h : i < D.length) : (rowE esL D).take (i * 4) ++ (.str y.1.1 :: .str y.1.2 :: .int .i64 y.2.1 :: .str y.2.2 :: (rowE esL D).drop (i * 4 + 4)) = rowE esL (D.set i y) :=
  rowE_set (E := esL) (sz := 4) (fun _ => rfl) h
theorem es_lenL {D : List ((List UInt8 × List UInt8) × Int × List UInt8)} : (rowE esL D).length = D.length * 4 := rowE_len (E := esL) (sz := 4) (fun _ => rfl) D
theorem swapRange_eqL (b : Nat) (σ : List (List AV)) (D : List ((List UInt8 × List UInt8) × Int × List UInt8)) (x y n g : Nat) (hN : D.length ≤ 2 ^ 30) (hx : x + n ≤ D.length) (hy : y + n ≤ D.length) (hb : b < σ.length) :
    ev 223 [.ms 42 4 b 0 D.length, .int .i64 x, .int .i64 y, .int .i64 n, .fn g []] (σ.set b (rowE esL D)) = some (.tup [], σ.set b (rowE esL (swapN D x y n))) := by
  refine EV_post rfl Tryz.func223 rfl (by simp [Tryz.ntmps223]) (by kernel_rfl) (by kernel_rfl) ?_
  simp (maxSteps := 4000000) [List.getElem?_cons_zero, List.getElem?_cons_succ, -Prod.forall]
  refine Post_loop (I := fun k : Nat => ⟨[(0, .ms 42 4 b 0 D.length), (1, .int .i64 x), (2, .int .i64 y), (3, .int .i64 n), (10, .int .i64 k)], [], σ.set b (rowE esL (swapN D x y k))⟩) (Pr := fun k => k ≤ n) (μ := fun k => n - k) (a := 0) (by simp [swapN]) (by simp) ?_
  intro k hk
  by_cases hc : k < n
  · have hs : swapN D x y (k + 1) = swap2 (swapN D x y k) (x + k) (y + k) := rfl
    obtain ⟨Dk, hDk⟩ : ∃ Dk, swapN D x y k = Dk := ⟨_, rfl⟩
    have hl : Dk.length = D.length := by rw [← hDk]; simp
    rw [hDk] at hs
    obtain ⟨i, hi⟩ : ∃ i, x + k = i := ⟨_, rfl⟩
    obtain ⟨j, hj⟩ : ∃ i, y + k = i := ⟨_, rfl⟩
    rw [hi, hj] at hs
    obtain ⟨u, hu⟩ : ∃ u, Dk[i]? = some u := ⟨_, List.getElem?_eq_getElem (by omega)⟩
    obtain ⟨v, hv⟩ : ∃ u, Dk[j]? = some u := ⟨_, List.getElem?_eq_getElem (by omega)⟩
    rw [swap2_eq hu hv] at hs
    have w1 : IntKind.i64.wrap ((x : Int) + k) = (i : Int) := by rw [wrap64 (by omega)]; omega
    have w2 : IntKind.i64.wrap ((y : Int) + k) = (j : Int) := by rw [wrap64 (by omega)]; omega
    have w3 : IntKind.i64.wrap ((k : Int) + 1) = (k : Int) + 1 := wrap64 (by omega)
    have q1 : i < D.length := by omega
    have q2 : j < D.length := by omega
    have q1' : i * 4 + 4 ≤ (rowE esL Dk).length := by rw [es_lenL]; omega
    have q2' : j * 4 + 4 ≤ (rowE esL (Dk.set i v)).length := by rw [es_lenL]; simp; omega
    have g1 := es_getL hu
    have r1 := es_bndL hu
    have g2 := es_getL hv
    have r2 := es_bndL hv
    have s1 := es_setL (D := Dk) (i := i) (y := v) (by omega)
    have s2 := es_setL (D := Dk.set i v) (i := j) (y := u) (by simp; omega)
    simp (maxSteps := 4000000) [List.getElem?_cons_zero, List.getElem?_cons_succ, -Prod.forall, -getElem?_pos, hc, hDk, w1, w2, w3, q1, q2, q1', q2', g1, g2, r1, r2, s1, s2, hb]
    exact ⟨k + 1, by omega, by omega, by simp [hs]⟩
  · have : k = n := by omega
    subst this
    simp (maxSteps := 4000000) [List.getElem?_cons_zero, List.getElem?_cons_succ, -Prod.forall, hc, Tryz.results223]
end Go.Proofs.Tryz.Ai
end
section
/- Sorting a row of texts: insertion, rotation. -/
namespace Go.Proofs.Tryz.Ai
open Go Go.AI Go.Proofs
set_option maxHeartbeats 400000
set_option linter.unusedVariables false

/-- a function that compares -/
structure CmpOkL (g : Nat) (c : ((List UInt8 × List UInt8) × Int × List UInt8) → ((List UInt8 × List UInt8) × Int × List UInt8) → Int) (Q : ((List UInt8 × List UInt8) × Int × List UInt8) → Prop) : Prop where
  tp : TP c
  lt : g < 100000
  run : ∀ x y, Q x → Q y → ∀ σ, ev g [.agg [.str x.1.1, .str x.1.2, .int .i64 x.2.1, .str x.2.2], .agg [.str y.1.1, .str y.1.2, .int .i64 y.2.1, .str y.2.2]] σ = some (.int .i64 (c x y), σ)
theorem insertion_eqL {g : Nat} {c : ((List UInt8 × List UInt8) × Int × List UInt8) → ((List UInt8 × List UInt8) × Int × List UInt8) → Int} {Q : ((List UInt8 × List UInt8) × Int × List UInt8) → Prop} (h : CmpOkL g c Q) (b : Nat) (σ : List (List AV)) (pre L post : List ((List UInt8 × List UInt8) × Int × List UInt8)) (hL : ∀ x ∈ L, Q x) (N a e : Nat) (hN : N ≤ 2 ^ 30) (hNe : N = pre.length + (L.length + post.length)) (ha : a = pre.length) (he : e = a + L.length) (hb : b < σ.length) :
    ev 159 [.ms 42 4 b 0 N, .int .i64 a, .int .i64 e, .fn g []] (σ.set b (rowE esL (pre ++ (L ++ post)))) = some (.tup [], σ.set b (rowE esL (pre ++ (isrt c L ++ post)))) := by
  refine EV_post rfl Tryz.func159 rfl (by simp [Tryz.ntmps159]) (by kernel_rfl) (by kernel_rfl) ?_
  have w0 : IntKind.i64.wrap ((a : Int) + 1) = (a : Int) + 1 := wrap64 (by omega)
  have hgl := h.lt
  simp (maxSteps := 4000000) [List.getElem?_cons_zero, List.getElem?_cons_succ, -Prod.forall, w0]
  refine Post_loop (I := fun k : Nat => ⟨[(0, .ms 42 4 b 0 N), (1, .int .i64 a), (2, .int .i64 e), (3, .fn g []), (8, .int .i64 ((a + k : Nat) : Int))], [], σ.set b (rowE esL (pre ++ (isrt c (L.take k) ++ (L.drop k ++ post))))⟩) (Pr := fun k => 1 ≤ k ∧ (k ≤ L.length ∨ L = [])) (μ := fun k => L.length - k) (a := 1)
    (by cases L with
        | nil => simp [isrt]
        | cons x L => simp [isrt, ins1]) (by cases L <;> simp) ?_
  rintro k ⟨hk1, hk2⟩
  by_cases hc : k < L.length
  · obtain ⟨x, hx⟩ : ∃ x, L[k]? = some x := ⟨_, List.getElem?_eq_getElem hc⟩
    have hQx := hL x (List.mem_of_getElem? hx)
    have hdrop : L.drop k = x :: L.drop (k + 1) := by rw [List.drop_eq_getElem_cons hc]; congr 1; exact (List.getElem?_eq_some_iff.1 hx).2
    have hS : isrt c (L.take (k + 1)) = mrg c (isrt c (L.take k)) [x] := by
      rw [List.take_add_one, hx]; exact isrt_snoc h.tp _ _
    have hSs := isrt_srt' h.tp (L.take k)
    have hSl : (isrt c (L.take k)).length = k := by rw [isrt_len]; simp; omega
    have hSQ : ∀ y ∈ isrt c (L.take k), Q y := fun y hy => hL y (List.mem_of_mem_take (isrt_mem.1 hy))
    rw [hdrop]
    obtain ⟨S, hSe⟩ : ∃ S, isrt c (L.take k) = S := ⟨_, rfl⟩
    rw [hSe] at hS hSs hSl hSQ ⊢
    obtain ⟨m, hm⟩ : ∃ m, a + k = m := ⟨_, rfl⟩
    have q0 : (m : Int) < e := by omega
    have q1 : m < e := by omega
    simp (maxSteps := 4000000) [List.getElem?_cons_zero, List.getElem?_cons_succ, -Prod.forall, hm, q1]
    refine Post_loop (I := fun u : Nat => ⟨[(0, .ms 42 4 b 0 N), (1, .int .i64 a), (2, .int .i64 e), (3, .fn g []), (8, .int .i64 m), (9, .int .i64 ((a + u : Nat) : Int))], [], σ.set b (rowE esL (pre ++ (S.take u ++ x :: (S.drop u ++ (L.drop (k + 1) ++ post)))))⟩)
      (Pr := fun u => u ≤ k ∧ ∀ v ∈ S.drop u, c x v < 0) (μ := fun u => u) (a := k) (by simp [hm, ← hSl]; omega) (by simp [← hSl]) ?_
    rintro u ⟨hu, hV⟩
    have hfin : (∀ y, (S.take u).getLast? = some y → ¬ c x y < 0) → isrt c (L.take (k + 1)) = S.take u ++ x :: S.drop u := by
      intro hq
      rw [hS]
      have : S = S.take u ++ S.drop u := (List.take_append_drop u S).symm
      conv => lhs; rw [this]
      refine mrg_one (fun y hy => ?_) hV
      obtain ⟨z, hz⟩ : ∃ z, (S.take u).getLast? = some z := by
        cases hg : (S.take u).getLast? with
        | none => rw [List.getLast?_eq_none_iff] at hg; rw [hg] at hy; cases hy
        | some z => exact ⟨z, rfl⟩
      have h1 := hq z hz
      have hyz : y = z ∨ c y z ≤ 0 := by
        rw [this] at hSs
        have hs1 := (List.pairwise_append.1 hSs).1
        obtain ⟨ys, hys⟩ := List.getLast?_eq_some_iff.1 hz
        rw [hys] at hy hs1
        rcases List.mem_append.1 hy with hy | hy
        · exact .inr ((List.pairwise_append.1 hs1).2.2 y hy z (by simp))
        · simp at hy; exact .inl hy
      rcases hyz with rfl | hyz
      · exact h1
      · exact h.tp.nlt.2 (h.tp.trans _ _ _ hyz (h.tp.nlt.1 h1))
    obtain ⟨R, hR⟩ : ∃ R, L.drop (k + 1) ++ post = R := ⟨_, rfl⟩
    rw [hR]
    cases u with
    | zero =>
      have hf := hfin (by simp)
      have w2 : IntKind.i64.wrap ((m : Int) + 1) = (m : Int) + 1 := wrap64 (by omega)
      obtain ⟨D, hD⟩ : ∃ D, pre ++ (S.take 0 ++ x :: (S.drop 0 ++ R)) = D := ⟨_, rfl⟩
      rw [hD]
      simp (maxSteps := 4000000) [List.getElem?_cons_zero, List.getElem?_cons_succ, -Prod.forall, -regionA_true]
      refine Post_bndD [] _ (by rfl) (by simp (maxSteps := 4000000) [List.getElem?_cons_zero, List.getElem?_cons_succ, ]; exact rfl) ?_
      repeat (first
        | refine PostD_go _ (by rfl) (by rfl) (by simp (maxSteps := 4000000) [List.getElem?_cons_zero, List.getElem?_cons_succ, ]; exact rfl) (by first | exact .inl rfl | exact .inr rfl) (by rfl) ?_
        | refine PostD_no (by rfl) (by rfl) ?_)
      refine PostD_end ?_
      simp (maxSteps := 4000000) [List.getElem?_cons_zero, List.getElem?_cons_succ, -Prod.forall, w2]
      refine ⟨k + 1, ⟨by omega, by omega⟩, by omega, by omega, ?_⟩
      rw [hf, ← hD, ← hR]; simp
    | succ w =>
      obtain ⟨y, hy⟩ : ∃ y, S[w]? = some y := ⟨_, List.getElem?_eq_getElem (by omega)⟩
      have hQy := hSQ y (List.mem_of_getElem? hy)
      have hcmp := h.run x y hQx hQy
      have hB := bubL (pre := pre) (rest := R) (x := x) hy
      rw [← ha] at hB
      obtain ⟨D, hD⟩ : ∃ D, pre ++ (S.take (w + 1) ++ x :: (S.drop (w + 1) ++ R)) = D := ⟨_, rfl⟩
      rw [hD] at hB ⊢
      have hDl : D.length = N := by rw [← hD, ← hR]; simp; omega
      obtain ⟨i, hi⟩ : ∃ i, a + w = i := ⟨_, rfl⟩
      have hj : a + (w + 1) = i + 1 := by omega
      rw [hi, hj] at hB
      have w1 : IntKind.i64.wrap ((i : Int) + 1 - 1) = (i : Int) := by rw [wrap64 (by omega)]; omega
      have w2 : IntKind.i64.wrap ((m : Int) + 1) = (m : Int) + 1 := wrap64 (by omega)
      have p1 : (a : Int) < (i : Int) + 1 := by omega
      have p2 : ((i : Int) + 1).toNat = i + 1 := by omega
      have p3 : i + 1 < N := by omega
      have p4 : i < N := by omega
      have p5 : i * 4 + 4 ≤ (rowE esL D).length := by rw [es_lenL]; omega
      have p6 : (i + 1) * 4 + 4 ≤ (rowE esL D).length := by rw [es_lenL]; omega
      have p7 : (0 : Int) ≤ (i : Int) + 1 := by omega
      have g1 := es_getL hB.1
      have r1 := es_bndL hB.1
      have g2 := es_getL hB.2.1
      have r2 := es_bndL hB.2.1
      have s1 := es_setL (D := D) (i := i + 1) (y := y) (by omega)
      have s2 := es_setL (D := D.set (i + 1) y) (i := i) (y := x) (by simp; omega)
      have p8 : i * 4 + 4 ≤ (rowE esL (D.set (i + 1) y)).length := by rw [es_lenL]; simp; omega
      have hsw := hB.2.2
      rw [swap2_eq hB.2.1 hB.1] at hsw
      have hj2 : (a : Int) + ((w : Int) + 1) = ((i + 1 : Nat) : Int) := by omega
      have hi2 : (a : Int) + (w : Int) = (i : Int) := by omega
      obtain ⟨i1, hi1⟩ : ∃ z, i + 1 = z := ⟨_, rfl⟩
      have w1 : IntKind.i64.wrap ((i1 : Int) - 1) = (i : Int) := by rw [wrap64 (by omega)]; omega
      rw [hi1] at g2 r2 s1 p3 p6 hj2 hsw
      have s2 := es_setL (D := D.set i1 y) (i := i) (y := x) (by simp; omega)
      have p8 : i * 4 + 4 ≤ (rowE esL (D.set i1 y)).length := by rw [es_lenL]; simp; omega
      have p1 : a < i1 := by omega
      simp (maxSteps := 4000000) [List.getElem?_cons_zero, List.getElem?_cons_succ, -Prod.forall, -regionA_true, hj2]
      refine Post_bndD [] _ (by rfl) (by simp (maxSteps := 4000000) [List.getElem?_cons_zero, List.getElem?_cons_succ, ]; exact rfl) ?_
      repeat (first
        | refine PostD_go _ (by rfl) (by rfl) (by simp (maxSteps := 4000000) [List.getElem?_cons_zero, List.getElem?_cons_succ, -getElem?_pos, w1, p1, p3, p4, g1, g2, r1, r2, hgl, hcmp, hb]; exact rfl) (by first | exact .inl rfl | exact .inr rfl) (by rfl) ?_
        | refine PostD_no (by rfl) (by rfl) ?_)
      refine PostD_end ?_
      by_cases hlt : c x y < 0
      · have hV2 : ∀ v ∈ S.drop w, c x v < 0 := by
          have hd : S.drop w = y :: S.drop (w + 1) := by rw [List.drop_eq_getElem_cons (by omega)]; congr 1; exact (List.getElem?_eq_some_iff.1 hy).2
          rw [hd]
          intro v hv
          rcases List.mem_cons.1 hv with rfl | hv
          · exact hlt
          · exact hV v hv
        simp (maxSteps := 4000000) [List.getElem?_cons_zero, List.getElem?_cons_succ, -Prod.forall, -regionA_true, hlt]
        refine Post_bndD [] _ (by rfl) (by simp (maxSteps := 4000000) [List.getElem?_cons_zero, List.getElem?_cons_succ, ]; exact rfl) ?_
        repeat (first
          | refine PostD_go _ (by rfl) (by rfl) (by simp (maxSteps := 4000000) [List.getElem?_cons_zero, List.getElem?_cons_succ, -getElem?_pos, w1, p3, p4, p5, p6, p8, g1, g2, r1, r2, s1, s2, hb]; exact rfl) (by first | exact .inl rfl | exact .inr rfl) (by rfl) ?_
          | refine PostD_no (by rfl) (by rfl) ?_)
        refine PostD_end ?_
        simp (maxSteps := 4000000) [List.getElem?_cons_zero, List.getElem?_cons_succ, -Prod.forall, w1]
        exact ⟨w, ⟨by omega, hV2⟩, by omega, hi2.symm, by rw [hsw]⟩
      · have hf := hfin (fun z hz => by
          have : (S.take (w + 1)).getLast? = some y := by rw [List.take_add_one, hy]; simp
          rw [this] at hz; injection hz with hz; subst hz; exact hlt)
        simp (maxSteps := 4000000) [List.getElem?_cons_zero, List.getElem?_cons_succ, -Prod.forall, hlt, w2]
        refine ⟨k + 1, ⟨by omega, by omega⟩, by omega, by omega, ?_⟩
        rw [hf, ← hD, ← hR]; simp
  · have hk : L.take k = L ∧ L.drop k = [] := by
      rcases hk2 with h | h
      · exact ⟨List.take_of_length_le (by omega), List.drop_of_length_le (by omega)⟩
      · subst h; simp
    rw [hk.1, hk.2]
    obtain ⟨m, hm⟩ : ∃ m, a + k = m := ⟨_, rfl⟩
    have q1 : ¬ m < e := by omega
    have hlow := lowS_setset (σ := σ) (b := b) (X := rowE esL (pre ++ (L ++ post))) (lowL_rowE (E := esL) (n := σ.length) (fun x => by simp [esL]) (pre ++ (isrt c L ++ ([] ++ post))))
    rw [hm]
    obtain ⟨X, hX⟩ : ∃ X, rowE esL (pre ++ (isrt c L ++ ([] ++ post))) = X := ⟨_, rfl⟩
    rw [hX] at hlow ⊢
    simp (maxSteps := 4000000) [List.getElem?_cons_zero, List.getElem?_cons_succ, -Prod.forall, q1]
    rw [need_of hlow, ← hX]
    simp
end Go.Proofs.Tryz.Ai
end
section
/- Sorting a row of texts: rotation. -/
namespace Go.Proofs.Tryz.Ai
open Go Go.AI Go.Proofs
set_option maxHeartbeats 400000
set_option linter.unusedVariables false

theorem rotate_eqL (b : Nat) (σ : List (List AV)) (pre U V post : List ((List UInt8 × List UInt8) × Int × List UInt8)) (g N a m e : Nat) (hN : N ≤ 2 ^ 30) (hNe : N = pre.length + (U.length + (V.length + post.length))) (ha : a = pre.length) (hm : m = a + U.length) (he : e = m + V.length) (hU : 0 < U.length) (hV : 0 < V.length) (hb : b < σ.length) :
    ev 198 [.ms 42 4 b 0 N, .int .i64 a, .int .i64 m, .int .i64 e, .fn g []] (σ.set b (rowE esL (pre ++ (U ++ (V ++ post))))) = some (.tup [], σ.set b (rowE esL (pre ++ (V ++ (U ++ post))))) := by
  refine EV_post rfl Tryz.func198 rfl (by simp [Tryz.ntmps198]) (by kernel_rfl) (by kernel_rfl) ?_
  have w0 : IntKind.i64.wrap ((m : Int) - a) = (U.length : Int) := by rw [wrap64 (by omega)]; omega
  have w1 : IntKind.i64.wrap ((e : Int) - m) = (V.length : Int) := by rw [wrap64 (by omega)]; omega
  simp (maxSteps := 4000000) [List.getElem?_cons_zero, List.getElem?_cons_succ, -Prod.forall, w0, w1]
  refine Post_loop (I := fun x : List ((List UInt8 × List UInt8) × Int × List UInt8) × List ((List UInt8 × List UInt8) × Int × List UInt8) × List ((List UInt8 × List UInt8) × Int × List UInt8) × List ((List UInt8 × List UInt8) × Int × List UInt8) => ⟨[(0, .ms 42 4 b 0 N), (2, .int .i64 m), (4, .fn g []), (10, .int .i64 x.2.1.length), (11, .int .i64 x.2.2.1.length)], [], σ.set b (rowE esL (x.1 ++ (x.2.1 ++ (x.2.2.1 ++ x.2.2.2))))⟩)
    (Pr := fun x => x.1.length + x.2.1.length = m ∧ 0 < x.2.1.length ∧ 0 < x.2.2.1.length ∧ x.1 ++ (x.2.2.1 ++ (x.2.1 ++ x.2.2.2)) = pre ++ (V ++ (U ++ post))) (μ := fun x => x.2.1.length + x.2.2.1.length) (a := (pre, U, V, post)) (by simp) (by simp; omega) ?_
  rintro ⟨p, X, Y, q⟩ ⟨h1, h2, h3, h4⟩
  simp only at h1 h2 h3 h4 ⊢
  have hl := congrArg List.length h4
  simp only [List.length_append] at hl
  obtain ⟨i, hi⟩ : ∃ i, X.length = i := ⟨_, rfl⟩
  obtain ⟨j, hj⟩ : ∃ j, Y.length = j := ⟨_, rfl⟩
  have hp : p.length = m - i := by omega
  obtain ⟨z, hz⟩ : ∃ z, m - i = z := ⟨_, rfl⟩
  have w2 : IntKind.i64.wrap ((m : Int) - i) = (z : Int) := by rw [wrap64 (by omega)]; omega
  have hlen : (p ++ (X ++ (Y ++ q))).length = N := by simp; omega
  by_cases hij : i = j
  · have hs := swapRange_eqL b σ (p ++ (X ++ ([] ++ (Y ++ q)))) z m i g (by simp; omega) (by simp; omega) (by simp; omega) hb
    have hsw := swapN_at (pre := p) (U := X) (mid := []) (V := Y) (post := q) (n := i) hi (by omega)
    have e1 : p.length + (i + ([] : List ((List UInt8 × List UInt8) × Int × List UInt8)).length) = m := by simp; omega
    rw [e1, hp, hz] at hsw
    rw [hsw] at hs
    simp only [List.nil_append] at hs
    rw [hlen, h4] at hs
    subst hij
    simp (maxSteps := 4000000) [List.getElem?_cons_zero, List.getElem?_cons_succ, -Prod.forall, hi, hj, w2, hs, Tryz.results198]
  · have hij' : ¬ (i : Int) = j := by omega
    by_cases hlt : j < i
    · have hX : X = X.take j ++ X.drop j := (List.take_append_drop j X).symm
      have hs := swapRange_eqL b σ (p ++ (X.take j ++ (X.drop j ++ (Y ++ q)))) z m j g (by simp; omega) (by simp; omega) (by simp; omega) hb
      have hsw := swapN_at (pre := p) (U := X.take j) (mid := X.drop j) (V := Y) (post := q) (n := j) (by simp; omega) hj
      have e1 : p.length + (j + (X.drop j).length) = m := by simp; omega
      rw [e1, hp, hz] at hsw
      rw [hsw] at hs
      have e2 : X.take j ++ (X.drop j ++ (Y ++ q)) = X ++ (Y ++ q) := by rw [← List.append_assoc, ← hX]
      rw [e2, hlen] at hs
      have w3 : IntKind.i64.wrap ((i : Int) - j) = ((i - j : Nat) : Int) := by rw [wrap64 (by omega)]; omega
      obtain ⟨r, hr⟩ : ∃ r, i - j = r := ⟨_, rfl⟩
      rw [hr] at w3
      simp (maxSteps := 4000000) [List.getElem?_cons_zero, List.getElem?_cons_succ, -Prod.forall, hi, hj, hij, hlt, w2, w3, hs]
      refine ⟨p ++ Y, X.drop j, X.take j, q, ⟨?_, ?_, ?_, ?_⟩, ?_, ?_, ?_⟩
      · simp; omega
      · simp; omega
      · simp; omega
      · rw [← h4]
        simp only [List.append_assoc]
        rw [← List.append_assoc (X.take j), ← hX]
      · simp; omega
      · simp; omega
      · simp
    · have hlt' : i < j := by omega
      have hY : Y = Y.take (j - i) ++ Y.drop (j - i) := (List.take_append_drop (j - i) Y).symm
      obtain ⟨r, hr⟩ : ∃ r, j - i = r := ⟨_, rfl⟩
      rw [hr] at hY
      have hs := swapRange_eqL b σ (p ++ (X ++ (Y.take r ++ (Y.drop r ++ q)))) z (m + r) i g (by simp; omega) (by simp; omega) (by simp; omega) hb
      have hsw := swapN_at (pre := p) (U := X) (mid := Y.take r) (V := Y.drop r) (post := q) (n := i) hi (by simp; omega)
      have e1 : p.length + (i + (Y.take r).length) = m + r := by simp; omega
      rw [e1, hp, hz] at hsw
      rw [hsw] at hs
      have e2 : Y.take r ++ (Y.drop r ++ q) = Y ++ q := by rw [← List.append_assoc, ← hY]
      rw [e2, hlen] at hs
      have w3 : IntKind.i64.wrap ((j : Int) - i) = (r : Int) := by rw [wrap64 (by omega)]; omega
      obtain ⟨y, hy⟩ : ∃ y, m + r = y := ⟨_, rfl⟩
      have w4 : IntKind.i64.wrap ((m : Int) + j) = (m : Int) + j := wrap64 (by omega)
      have w5 : IntKind.i64.wrap ((m : Int) + j - i) = (y : Int) := by rw [wrap64 (by omega)]; omega
      rw [hy] at hs
      simp (maxSteps := 4000000) [List.getElem?_cons_zero, List.getElem?_cons_succ, -Prod.forall, hi, hj, hij, hlt, w2, w3, w4, w5, hs]
      refine ⟨p, Y.drop r, Y.take r, X ++ q, ⟨?_, ?_, ?_, ?_⟩, ?_, ?_, ?_⟩
      · simp; omega
      · simp; omega
      · simp; omega
      · rw [← h4]
        rw [← List.append_assoc (Y.take r), ← hY]
      · simp; omega
      · simp; omega
      · simp
end Go.Proofs.Tryz.Ai
end
section
/- Sorting a row of texts: merging. -/
namespace Go.Proofs.Tryz.Ai
open Go Go.AI Go.Proofs
set_option maxHeartbeats 400000
set_option linter.unusedVariables false

/-- what a merge does -/
def MrgOkL (g : Nat) (c : ((List UInt8 × List UInt8) × Int × List UInt8) → ((List UInt8 × List UInt8) × Int × List UInt8) → Int) (Q : ((List UInt8 × List UInt8) × Int × List UInt8) → Prop) (n : Nat) : Prop :=
  ∀ (b : Nat) (σ : List (List AV)) (pre L R post : List ((List UInt8 × List UInt8) × Int × List UInt8)) (N a m e : Nat), L.length + R.length = n → N ≤ 2 ^ 30 → N = pre.length + (L.length + (R.length + post.length)) → a = pre.length → m = a + L.length → e = m + R.length → 0 < L.length → 0 < R.length →
    Srt c L → Srt c R → (∀ x ∈ L, Q x) → (∀ x ∈ R, Q x) → b < σ.length →
    ev 160 [.ms 42 4 b 0 N, .int .i64 a, .int .i64 m, .int .i64 e, .fn g []] (σ.set b (rowE esL (pre ++ (L ++ (R ++ post))))) = some (.tup [], σ.set b (rowE esL (pre ++ (mrg c L R ++ post))))
theorem merge_oneL {g : Nat} {c : ((List UInt8 × List UInt8) × Int × List UInt8) → ((List UInt8 × List UInt8) × Int × List UInt8) → Int} {Q : ((List UInt8 × List UInt8) × Int × List UInt8) → Prop} (h : CmpOkL g c Q) (b : Nat) (σ : List (List AV)) (pre : List ((List UInt8 × List UInt8) × Int × List UInt8)) (x : (List UInt8 × List UInt8) × Int × List UInt8) (R post : List ((List UInt8 × List UInt8) × Int × List UInt8)) (N a m e : Nat) (hN : N ≤ 2 ^ 30) (hNe : N = pre.length + (1 + (R.length + post.length))) (ha : a = pre.length) (hm : m = a + 1) (he : e = m + R.length)
    (hR : Srt c R) (hx : Q x) (hQ : ∀ x ∈ R, Q x) (hb : b < σ.length) :
    ev 160 [.ms 42 4 b 0 N, .int .i64 a, .int .i64 m, .int .i64 e, .fn g []] (σ.set b (rowE esL (pre ++ ([x] ++ (R ++ post))))) = some (.tup [], σ.set b (rowE esL (pre ++ (mrg c [x] R ++ post)))) := by
  obtain ⟨D, hD⟩ : ∃ D, pre ++ ([x] ++ (R ++ post)) = D := ⟨_, rfl⟩
  have hDl : D.length = N := by rw [← hD]; simp; omega
  have hDx : D[a]? = some x := by rw [← hD, ha]; simp
  have hDR : ∀ k, k < R.length → D[m + k]? = R[k]? := by
    intro k hk
    rw [← hD, hm, ha, List.getElem?_append_right (by omega), List.getElem?_append_right (by simp; omega), List.getElem?_append_left (by simp; omega)]
    congr 1; simp; omega
  have w0 : IntKind.i64.wrap ((m : Int) - a) = 1 := by rw [wrap64 (by omega)]; omega
  have hgl := h.lt
  rw [hD]
  refine EV_post rfl Tryz.func160 rfl (by simp [Tryz.ntmps160]) (by kernel_rfl) (by kernel_rfl) ?_
  simp (maxSteps := 4000000) [List.getElem?_cons_zero, List.getElem?_cons_succ, -Prod.forall, w0]
  refine Post_loop (I := fun p : Nat × Nat => ⟨[(0, .ms 42 4 b 0 N), (1, .int .i64 a), (4, .fn g []), (10, .int .i64 p.1), (11, .int .i64 p.2)], [], σ.set b (rowE esL D)⟩)
    (Pr := fun p => m ≤ p.1 ∧ p.1 ≤ p.2 ∧ p.2 ≤ e ∧ (∀ y ∈ R.take (p.1 - m), c y x < 0) ∧ (∀ y ∈ R.drop (p.2 - m), ¬ c y x < 0)) (μ := fun p => p.2 - p.1) (a := (m, e)) (by simp) (by simp [he]) ?_
  rintro ⟨i, j⟩ ⟨h1, h2, h3, h4, h5⟩
  simp only at h1 h2 h3 h4 h5 ⊢
  by_cases hc : i < j
  · have hw := half_w (i := i) (j := j) (by omega)
    obtain ⟨z, hz⟩ : ∃ z, i + j = z := ⟨_, rfl⟩
    obtain ⟨k, hk⟩ : ∃ z, (i + j) / 2 = z := ⟨_, rfl⟩
    rw [hk, hz] at hw
    obtain ⟨hw1, hw2, hw3, hw4⟩ := hw
    have hk1 : i ≤ k ∧ k < j := by omega
    obtain ⟨y, hy⟩ : ∃ y, R[k - m]? = some y := ⟨_, List.getElem?_eq_getElem (by omega)⟩
    have hDy : D[k]? = some y := by rw [← hy, ← hDR _ (by omega)]; congr 1; omega
    have g1 := es_getL hDx
    have r1 := es_bndL hDx
    have g2 := es_getL hDy
    have r2 := es_bndL hDy
    have hcmp := h.run y x (hQ y (List.mem_of_getElem? hy)) hx
    have p1 : k < N := by omega
    have p2 : a < N := by omega
    have w5 : IntKind.i64.wrap ((k : Int) + 1) = ((k + 1 : Nat) : Int) := by rw [wrap64 (by omega)]; omega
    simp (maxSteps := 4000000) [List.getElem?_cons_zero, List.getElem?_cons_succ, -Prod.forall, -regionA_true, hc, hw1, hw2, hw3, hw4]
    refine Post_bndD [] _ (by rfl) (by simp (maxSteps := 4000000) [List.getElem?_cons_zero, List.getElem?_cons_succ, ]; exact rfl) ?_
    repeat (first
      | refine PostD_go _ (by rfl) (by rfl) (by simp (maxSteps := 4000000) [List.getElem?_cons_zero, List.getElem?_cons_succ, -getElem?_pos, p1, p2, g1, g2, r1, r2, hgl, hcmp, hb]; exact rfl) (by first | exact .inl rfl | exact .inr rfl) (by rfl) ?_
      | refine PostD_no (by rfl) (by rfl) ?_)
    refine PostD_end ?_
    have hge : k - m < R.length := by omega
    by_cases hlt : c y x < 0
    · simp (maxSteps := 4000000) [List.getElem?_cons_zero, List.getElem?_cons_succ, -Prod.forall, hlt, w5]
      refine ⟨k + 1, j, ⟨by omega, by omega, by omega, fun w hw => ?_, fun w hw => ?_⟩, by omega, by simp⟩
      · obtain ⟨q, hq, hw⟩ := mem_take_get hw
        exact h.tp.le_lt (srt_get h.tp hR (by omega) hw hy) hlt
      · have := h5 w hw; omega
    · simp (maxSteps := 4000000) [List.getElem?_cons_zero, List.getElem?_cons_succ, -Prod.forall, hlt]
      refine ⟨i, k, ⟨by omega, by omega, by omega, fun w hw => ?_, fun w hw => ?_⟩, by omega, by simp, by simp⟩
      · exact h4 w hw
      · obtain ⟨q, hq, hw⟩ := mem_drop_get hw
        have := h.tp.nlt.1 hlt
        have := h.tp.trans _ _ _ this (srt_get h.tp hR hq hy hw)
        have := h.tp.flip x w; omega
  · have hij : i = j := by omega
    subst hij
    simp (maxSteps := 4000000) [List.getElem?_cons_zero, List.getElem?_cons_succ, -Prod.forall, hc]
    obtain ⟨p, hp⟩ : ∃ p, i - m = p := ⟨_, rfl⟩
    rw [hp] at h4 h5
    have hfin : mrg c [x] R = R.take p ++ x :: R.drop p := by
      conv => lhs; rw [← List.take_append_drop p R]
      exact mrg_one' h4 h5
    have hi : i = a + 1 + p := by omega
    have hpR : p ≤ R.length := by omega
    have w1 : IntKind.i64.wrap ((i : Int) - 1) = ((a + p : Nat) : Int) := by rw [wrap64 (by omega)]; omega
    refine Post_loop (I := fun u : Nat => ⟨[(0, .ms 42 4 b 0 N), (10, .int .i64 i), (13, .int .i64 ((a + u : Nat) : Int))], [], σ.set b (rowE esL (pre ++ (R.take u ++ x :: (R.drop u ++ post))))⟩)
      (Pr := fun u => u ≤ p) (μ := fun u => p - u) (a := 0) (by simp [← hD]) (by simp) ?_
    intro u hu
    by_cases huc : u < p
    · obtain ⟨y, hy⟩ : ∃ y, R[u]? = some y := ⟨_, List.getElem?_eq_getElem (by omega)⟩
      have hB := bubR (pre := pre) (rest := post) (x := x) hy
      rw [← ha] at hB
      obtain ⟨D', hD'⟩ : ∃ D', pre ++ (R.take u ++ x :: (R.drop u ++ post)) = D' := ⟨_, rfl⟩
      rw [hD'] at hB ⊢
      have hDl' : D'.length = N := by rw [← hD']; simp; omega
      obtain ⟨k, hk⟩ : ∃ z, a + u = z := ⟨_, rfl⟩
      obtain ⟨k1, hk1⟩ : ∃ z, k + 1 = z := ⟨_, rfl⟩
      have e1 : a + (u + 1) = k1 := by omega
      rw [hk, e1] at hB
      obtain ⟨z, hz⟩ : ∃ z, a + p = z := ⟨_, rfl⟩
      rw [hz] at w1
      have q1 : k < z := by omega
      have w2 : IntKind.i64.wrap ((k : Int) + 1) = (k1 : Int) := by rw [wrap64 (by omega)]; omega
      have g1 := es_getL hB.1
      have r1 := es_bndL hB.1
      have g2 := es_getL hB.2.1
      have r2 := es_bndL hB.2.1
      have s1 := es_setL (D := D') (i := k) (y := y) (by omega)
      have s2 := es_setL (D := D'.set k y) (i := k1) (y := x) (by simp; omega)
      have hsw := hB.2.2
      rw [swap2_eq hB.1 hB.2.1] at hsw
      have p1 : k < N := by omega
      have p2 : k1 < N := by omega
      have p5 : k * 4 + 4 ≤ (rowE esL D').length := by rw [es_lenL]; omega
      have p6 : k1 * 4 + 4 ≤ (rowE esL (D'.set k y)).length := by rw [es_lenL]; simp; omega
      rw [hk]
      simp (maxSteps := 4000000) [List.getElem?_cons_zero, List.getElem?_cons_succ, -Prod.forall, -regionA_true, w1, q1]
      refine Post_bndD [] _ (by rfl) (by simp (maxSteps := 4000000) [List.getElem?_cons_zero, List.getElem?_cons_succ, ]; exact rfl) ?_
      repeat (first
        | refine PostD_go _ (by rfl) (by rfl) (by simp (maxSteps := 4000000) [List.getElem?_cons_zero, List.getElem?_cons_succ, -getElem?_pos, w2, p1, p2, p5, p6, g1, g2, r1, r2, s1, s2, hb]; exact rfl) (by first | exact .inl rfl | exact .inr rfl) (by rfl) ?_
        | refine PostD_no (by rfl) (by rfl) ?_)
      refine PostD_end ?_
      simp (maxSteps := 4000000) [List.getElem?_cons_zero, List.getElem?_cons_succ, -Prod.forall, w2]
      exact ⟨u + 1, by omega, by omega, by omega, by rw [hsw]⟩
    · obtain rfl : u = p := by omega
      obtain ⟨k, hk⟩ : ∃ z, a + u = z := ⟨_, rfl⟩
      rw [hk] at w1 ⊢
      have hlow := lowS_setset (σ := σ) (b := b) (X := rowE esL D) (lowL_rowE (E := esL) (n := σ.length) (fun x => by simp [esL]) (pre ++ (mrg c [x] R ++ post)))
      have e2 : pre ++ (R.take u ++ x :: (R.drop u ++ post)) = pre ++ (mrg c [x] R ++ post) := by rw [hfin]; simp
      rw [e2]
      obtain ⟨X, hX⟩ : ∃ X, rowE esL (pre ++ (mrg c [x] R ++ post)) = X := ⟨_, rfl⟩
      rw [hX] at hlow ⊢
      simp (maxSteps := 4000000) [List.getElem?_cons_zero, List.getElem?_cons_succ, -Prod.forall, w1]
      rw [need_of hlow]
theorem merge_lastL {g : Nat} {c : ((List UInt8 × List UInt8) × Int × List UInt8) → ((List UInt8 × List UInt8) × Int × List UInt8) → Int} {Q : ((List UInt8 × List UInt8) × Int × List UInt8) → Prop} (h : CmpOkL g c Q) (b : Nat) (σ : List (List AV)) (pre : List ((List UInt8 × List UInt8) × Int × List UInt8)) (x : (List UInt8 × List UInt8) × Int × List UInt8) (L post : List ((List UInt8 × List UInt8) × Int × List UInt8)) (N a m e : Nat) (hN : N ≤ 2 ^ 30) (hNe : N = pre.length + (L.length + (1 + post.length))) (ha : a = pre.length) (hm : m = a + L.length) (he : e = m + 1) (h2 : 2 ≤ L.length)
    (hL : Srt c L) (hx : Q x) (hQ : ∀ x ∈ L, Q x) (hb : b < σ.length) :
    ev 160 [.ms 42 4 b 0 N, .int .i64 a, .int .i64 m, .int .i64 e, .fn g []] (σ.set b (rowE esL (pre ++ (L ++ ([x] ++ post))))) = some (.tup [], σ.set b (rowE esL (pre ++ (mrg c L [x] ++ post)))) := by
  obtain ⟨D, hD⟩ : ∃ D, pre ++ (L ++ ([x] ++ post)) = D := ⟨_, rfl⟩
  have hDl : D.length = N := by rw [← hD]; simp; omega
  have hDx : D[m]? = some x := by
    rw [← hD, hm, ha, List.getElem?_append_right (by omega), List.getElem?_append_right (by omega)]; simp
  have hDL : ∀ k, k < L.length → D[a + k]? = L[k]? := by
    intro k hk
    rw [← hD, ha, List.getElem?_append_right (by omega), List.getElem?_append_left (by omega)]
    congr 1; omega
  have w0 : IntKind.i64.wrap ((m : Int) - a) = (L.length : Int) := by rw [wrap64 (by omega)]; omega
  have w1 : IntKind.i64.wrap ((e : Int) - m) = 1 := by rw [wrap64 (by omega)]; omega
  have hgl := h.lt
  have q0 : ¬ (L.length : Int) = 1 := by omega
  have q0' : ¬ L.length = 1 := by omega
  rw [hD]
  refine EV_post rfl Tryz.func160 rfl (by simp [Tryz.ntmps160]) (by kernel_rfl) (by kernel_rfl) ?_
  simp (maxSteps := 4000000) [List.getElem?_cons_zero, List.getElem?_cons_succ, -Prod.forall, w0, w1, q0, q0']
  refine Post_loop (I := fun p : Nat × Nat => ⟨[(0, .ms 42 4 b 0 N), (2, .int .i64 m), (4, .fn g []), (14, .int .i64 p.1), (15, .int .i64 p.2)], [], σ.set b (rowE esL D)⟩)
    (Pr := fun p => a ≤ p.1 ∧ p.1 ≤ p.2 ∧ p.2 ≤ m ∧ (∀ y ∈ L.take (p.1 - a), ¬ c x y < 0) ∧ (∀ y ∈ L.drop (p.2 - a), c x y < 0)) (μ := fun p => p.2 - p.1) (a := (a, m)) (by simp) (by simp [hm]) ?_
  rintro ⟨i, j⟩ ⟨h1, h2, h3, h4, h5⟩
  simp only at h1 h2 h3 h4 h5 ⊢
  by_cases hc : i < j
  · have hw := half_w (i := i) (j := j) (by omega)
    obtain ⟨z, hz⟩ : ∃ z, i + j = z := ⟨_, rfl⟩
    obtain ⟨k, hk⟩ : ∃ z, (i + j) / 2 = z := ⟨_, rfl⟩
    rw [hk, hz] at hw
    obtain ⟨hw1, hw2, hw3, hw4⟩ := hw
    have hk1 : i ≤ k ∧ k < j := by omega
    obtain ⟨y, hy⟩ : ∃ y, L[k - a]? = some y := ⟨_, List.getElem?_eq_getElem (by omega)⟩
    have hDy : D[k]? = some y := by rw [← hy, ← hDL _ (by omega)]; congr 1; omega
    have g1 := es_getL hDx
    have r1 := es_bndL hDx
    have g2 := es_getL hDy
    have r2 := es_bndL hDy
    have hcmp := h.run x y hx (hQ y (List.mem_of_getElem? hy))
    have p1 : k < N := by omega
    have p2 : m < N := by omega
    have w5 : IntKind.i64.wrap ((k : Int) + 1) = ((k + 1 : Nat) : Int) := by rw [wrap64 (by omega)]; omega
    simp (maxSteps := 4000000) [List.getElem?_cons_zero, List.getElem?_cons_succ, -Prod.forall, -regionA_true, hc, hw1, hw2, hw3, hw4]
    refine Post_bndD [] _ (by rfl) (by simp (maxSteps := 4000000) [List.getElem?_cons_zero, List.getElem?_cons_succ, ]; exact rfl) ?_
    repeat (first
      | refine PostD_go _ (by rfl) (by rfl) (by simp (maxSteps := 4000000) [List.getElem?_cons_zero, List.getElem?_cons_succ, -getElem?_pos, p1, p2, g1, g2, r1, r2, hgl, hcmp, hb]; exact rfl) (by first | exact .inl rfl | exact .inr rfl) (by rfl) ?_
      | refine PostD_no (by rfl) (by rfl) ?_)
    refine PostD_end ?_
    by_cases hlt : c x y < 0
    · simp (maxSteps := 4000000) [List.getElem?_cons_zero, List.getElem?_cons_succ, -Prod.forall, hlt]
      refine ⟨i, k, ⟨by omega, by omega, by omega, fun w hw => ?_, fun w hw => ?_⟩, by omega, by simp, by simp⟩
      · have := h4 w hw; omega
      · obtain ⟨q, hq, hw⟩ := mem_drop_get hw
        exact h.tp.lt_le hlt (srt_get h.tp hL hq hy hw)
    · simp (maxSteps := 4000000) [List.getElem?_cons_zero, List.getElem?_cons_succ, -Prod.forall, hlt, w5]
      refine ⟨k + 1, j, ⟨by omega, by omega, by omega, fun w hw => ?_, fun w hw => ?_⟩, by omega, by simp⟩
      · obtain ⟨q, hq, hw⟩ := mem_take_get hw
        have := h.tp.trans _ _ _ (srt_get h.tp hL (by omega) hw hy) (h.tp.nlt.1 hlt)
        have := h.tp.flip x w; omega
      · exact h5 w hw
  · have hij : i = j := by omega
    subst hij
    simp (maxSteps := 4000000) [List.getElem?_cons_zero, List.getElem?_cons_succ, -Prod.forall, hc]
    obtain ⟨p, hp⟩ : ∃ p, i - a = p := ⟨_, rfl⟩
    rw [hp] at h4 h5
    have hfin : mrg c L [x] = L.take p ++ x :: L.drop p := by
      conv => lhs; rw [← List.take_append_drop p L]
      exact mrg_one h4 h5
    have hi : i = a + p := by omega
    have hpR : p ≤ L.length := by omega
    refine Post_loop (I := fun u : Nat => ⟨[(0, .ms 42 4 b 0 N), (14, .int .i64 i), (17, .int .i64 ((a + u : Nat) : Int))], [], σ.set b (rowE esL (pre ++ (L.take u ++ x :: (L.drop u ++ post))))⟩)
      (Pr := fun u => p ≤ u ∧ u ≤ L.length) (μ := fun u => u - p) (a := L.length) (by simp [← hD, hm]) (by simp; omega) ?_
    rintro u ⟨hu, hul⟩
    by_cases huc : p < u
    · obtain ⟨w, rfl⟩ : ∃ w, u = w + 1 := ⟨u - 1, by omega⟩
      obtain ⟨y, hy⟩ : ∃ y, L[w]? = some y := ⟨_, List.getElem?_eq_getElem (by omega)⟩
      have hB := bubL (pre := pre) (rest := post) (x := x) hy
      rw [← ha] at hB
      obtain ⟨D', hD'⟩ : ∃ D', pre ++ (L.take (w + 1) ++ x :: (L.drop (w + 1) ++ post)) = D' := ⟨_, rfl⟩
      rw [hD'] at hB ⊢
      have hDl' : D'.length = N := by rw [← hD']; simp; omega
      obtain ⟨k, hk⟩ : ∃ z, a + w = z := ⟨_, rfl⟩
      obtain ⟨k1, hk1⟩ : ∃ z, k + 1 = z := ⟨_, rfl⟩
      have e1 : a + (w + 1) = k1 := by omega
      rw [hk, e1] at hB
      have q1 : i < k1 := by omega
      have w2 : IntKind.i64.wrap ((k1 : Int) - 1) = (k : Int) := by rw [wrap64 (by omega)]; omega
      have g1 := es_getL hB.1
      have r1 := es_bndL hB.1
      have g2 := es_getL hB.2.1
      have r2 := es_bndL hB.2.1
      have s1 := es_setL (D := D') (i := k1) (y := y) (by omega)
      have s2 := es_setL (D := D'.set k1 y) (i := k) (y := x) (by simp; omega)
      have hsw := hB.2.2
      rw [swap2_eq hB.2.1 hB.1] at hsw
      have p1 : k < N := by omega
      have p2 : k1 < N := by omega
      have p5 : k1 * 4 + 4 ≤ (rowE esL D').length := by rw [es_lenL]; omega
      have p6 : k * 4 + 4 ≤ (rowE esL (D'.set k1 y)).length := by rw [es_lenL]; simp; omega
      rw [e1]
      simp (maxSteps := 4000000) [List.getElem?_cons_zero, List.getElem?_cons_succ, -Prod.forall, -regionA_true, q1]
      refine Post_bndD [] _ (by rfl) (by simp (maxSteps := 4000000) [List.getElem?_cons_zero, List.getElem?_cons_succ, ]; exact rfl) ?_
      repeat (first
        | refine PostD_go _ (by rfl) (by rfl) (by simp (maxSteps := 4000000) [List.getElem?_cons_zero, List.getElem?_cons_succ, -getElem?_pos, w2, p1, p2, p5, p6, g1, g2, r1, r2, s1, s2, hb]; exact rfl) (by first | exact .inl rfl | exact .inr rfl) (by rfl) ?_
        | refine PostD_no (by rfl) (by rfl) ?_)
      refine PostD_end ?_
      simp (maxSteps := 4000000) [List.getElem?_cons_zero, List.getElem?_cons_succ, -Prod.forall, w2]
      exact ⟨w, ⟨by omega, by omega⟩, by omega, by omega, by rw [hsw]⟩
    · obtain rfl : u = p := by omega
      have e3 : a + u = i := by omega
      rw [e3]
      have hlow := lowS_setset (σ := σ) (b := b) (X := rowE esL D) (lowL_rowE (E := esL) (n := σ.length) (fun x => by simp [esL]) (pre ++ (mrg c L [x] ++ post)))
      have e2 : pre ++ (L.take u ++ x :: (L.drop u ++ post)) = pre ++ (mrg c L [x] ++ post) := by rw [hfin]; simp
      rw [e2]
      obtain ⟨X, hX⟩ : ∃ X, rowE esL (pre ++ (mrg c L [x] ++ post)) = X := ⟨_, rfl⟩
      rw [hX] at hlow ⊢
      simp (maxSteps := 4000000) [List.getElem?_cons_zero, List.getElem?_cons_succ, -Prod.forall]
      rw [need_of hlow]
end Go.Proofs.Tryz.Ai
end
section
/- Sorting a row of texts: merging two rows. -/
namespace Go.Proofs.Tryz.Ai
open Go Go.AI Go.Proofs
set_option maxHeartbeats 2000000
set_option linter.unusedVariables false

theorem merge_eqL {g : Nat} {c : ((List UInt8 × List UInt8) × Int × List UInt8) → ((List UInt8 × List UInt8) × Int × List UInt8) → Int} {Q : ((List UInt8 × List UInt8) × Int × List UInt8) → Prop} (h : CmpOkL g c Q) (n : Nat) : MrgOkL g c Q n := by
  induction n using Nat.strongRecOn with
  | _ n ih =>
  intro b σ pre L R post N a m e hn hN hNe ha hm he hL0 hR0 hL hR hQL hQR hb
  by_cases l1 : L.length = 1
  · obtain ⟨x, rfl⟩ := List.length_eq_one_iff.1 l1
    exact merge_oneL h b σ pre x R post N a m e hN (by simpa using hNe) ha (by simpa using hm) he hR (hQL x (by simp)) hQR hb
  by_cases r1 : R.length = 1
  · obtain ⟨x, rfl⟩ := List.length_eq_one_iff.1 r1
    exact merge_lastL h b σ pre x L post N a m e hN (by simpa using hNe) ha hm (by simpa using he) (by omega) hL (hQR x (by simp)) hQL hb
  obtain ⟨D, hD⟩ : ∃ D, pre ++ (L ++ (R ++ post)) = D := ⟨_, rfl⟩
  have hDl : D.length = N := by rw [← hD]; simp; omega
  have hDL : ∀ k, k < L.length → D[a + k]? = L[k]? := by
    intro k hk
    rw [← hD, ha, List.getElem?_append_right (by omega), List.getElem?_append_left (by omega)]
    congr 1; omega
  have hDR : ∀ k, k < R.length → D[m + k]? = R[k]? := by
    intro k hk
    rw [← hD, hm, ha, List.getElem?_append_right (by omega), List.getElem?_append_right (by omega), List.getElem?_append_left (by omega)]
    congr 1; omega
  have w0 : IntKind.i64.wrap ((m : Int) - a) = (L.length : Int) := by rw [wrap64 (by omega)]; omega
  have w1 : IntKind.i64.wrap ((e : Int) - m) = (R.length : Int) := by rw [wrap64 (by omega)]; omega
  have hgl := h.lt
  have q0 : ¬ (L.length : Int) = 1 := by omega
  have q1 : ¬ (R.length : Int) = 1 := by omega
  obtain ⟨mid, nn, p0, S0, S1, k0, hw1, hw2, hw3, hw4, w2, w4, k1, k2⟩ := cut_nums (l := L.length) (r := R.length) (N := N) hm he (by omega) hN (by omega) (by omega)
  obtain ⟨k01, k02, k03, k04, k05, k06, k07, k08, k09, k10, k11⟩ := k0
  have hlow := lowS_setset (σ := σ) (b := b) (X := rowE esL D) (lowL_rowE (E := esL) (n := σ.length) (fun x => by simp [esL]) (pre ++ (mrg c L R ++ post)))
  rw [hD]
  obtain ⟨fin, hfin⟩ : ∃ X, rowE esL (pre ++ (mrg c L R ++ post)) = X := ⟨_, rfl⟩
  rw [hfin] at hlow ⊢
  refine EV_post rfl Tryz.func160 rfl (by simp [Tryz.ntmps160]) (by kernel_rfl) (by kernel_rfl) ?_
  have hae : ((a + e : Nat) : Int) = (a : Int) + e := by omega
  rw [hae] at hw1 hw2 hw3
  simp (maxSteps := 4000000) [List.getElem?_cons_zero, List.getElem?_cons_succ, -Prod.forall, w0, w1, q0, q1, l1, r1, hw1, hw2, hw3, hw4, w2]
  clear hae
  refine Post_of_eq (st2 := ⟨[(0, .ms 42 4 b 0 N), (1, .int .i64 a), (2, .int .i64 m), (3, .int .i64 e), (4, .fn g []), (18, .int .i64 mid), (19, .int .i64 nn), (20, .int .i64 S0), (21, .int .i64 S1)], [], σ.set b (rowE esL D)⟩) ?_ ?_
  · by_cases hmm : mid < m
    · obtain ⟨w3, e1⟩ := k1 hmm
      simp [hmm, w3, e1]
    · obtain ⟨e0, e1⟩ := k2 hmm
      simp [hmm, e0, e1]
  clear k1 k2
  simp (maxSteps := 4000000) [List.getElem?_cons_zero, List.getElem?_cons_succ, -Prod.forall, w4]
  clear w0 w1 w2 w4 hw1 hw2 hw3 hw4 q0 q1 l1 r1
  refine Post_loop (I := fun p : Nat × Nat => ⟨[(0, .ms 42 4 b 0 N), (1, .int .i64 a), (2, .int .i64 m), (3, .int .i64 e), (4, .fn g []), (18, .int .i64 mid), (19, .int .i64 nn), (20, .int .i64 p.1), (21, .int .i64 p.2), (22, .int .i64 p0)], [], σ.set b (rowE esL D)⟩)
    (Pr := fun p => S0 ≤ p.1 ∧ p.1 ≤ p.2 ∧ p.2 ≤ S1 ∧ (p.1 = S0 ∨ below1 c L R (p.1 - a) (mid - p.1)) ∧ (p.2 = S1 ∨ below2 c L R (p.2 - a) (mid - p.2))) (μ := fun p => p.2 - p.1) (a := (S0, S1)) (by simp) ⟨Nat.le_refl _, k02, Nat.le_refl _, .inl rfl, .inl rfl⟩ ?_
  rintro ⟨i, j⟩ ⟨h1, h2, h3, h4, h5⟩
  simp only at h1 h2 h3 h4 h5 ⊢
  by_cases hc : i < j
  · have hw := half_w (i := i) (j := j) (by omega)
    obtain ⟨z, hz⟩ : ∃ z, i + j = z := ⟨_, rfl⟩
    obtain ⟨k, hk⟩ : ∃ z, (i + j) / 2 = z := ⟨_, rfl⟩
    rw [hk, hz] at hw
    obtain ⟨hv1, hv2, hv3, hv4⟩ := hw
    have hk1 : i ≤ k ∧ k < j := by omega
    obtain ⟨x, hx⟩ : ∃ y, L[k - a]? = some y := ⟨_, List.getElem?_eq_getElem (by omega)⟩
    obtain ⟨y, hy⟩ : ∃ y, R[mid - k - 1]? = some y := ⟨_, List.getElem?_eq_getElem (by omega)⟩
    obtain ⟨k2, hk2⟩ : ∃ z, m + (mid - k - 1) = z := ⟨_, rfl⟩
    have hDx : D[k]? = some x := by rw [← hx, ← hDL _ (by omega)]; congr 1; omega
    have hDy : D[k2]? = some y := by rw [← hy, ← hDR _ (by omega), hk2]
    have g1 := es_getL hDx
    have r1 := es_bndL hDx
    have g2 := es_getL hDy
    have r2 := es_bndL hDy
    have hcmp := h.run y x (hQR y (List.mem_of_getElem? hy)) (hQL x (List.mem_of_getElem? hx))
    have p1 : k < N := by omega
    have p2 : k2 < N := by omega
    have v5 : IntKind.i64.wrap ((p0 : Int) - k) = (k2 : Int) := by rw [wrap64 (by omega)]; omega
    have v6 : IntKind.i64.wrap ((k : Int) + 1) = ((k + 1 : Nat) : Int) := by rw [wrap64 (by omega)]; omega
    simp (maxSteps := 4000000) [List.getElem?_cons_zero, List.getElem?_cons_succ, -Prod.forall, -regionA_true, hc, hv1, hv2, hv3, hv4]
    refine Post_bndD [] _ (by rfl) (by simp (maxSteps := 4000000) [List.getElem?_cons_zero, List.getElem?_cons_succ, ]; exact rfl) ?_
    repeat (first
      | refine PostD_go _ (by rfl) (by rfl) (by simp (maxSteps := 4000000) [List.getElem?_cons_zero, List.getElem?_cons_succ, -getElem?_pos, p1, p2, v5, g1, g2, r1, r2, hgl, hcmp, hb]; exact rfl) (by first | exact .inl rfl | exact .inr rfl) (by rfl) ?_
      | refine PostD_no (by rfl) (by rfl) ?_)
    refine PostD_end ?_
    by_cases hlt : c y x < 0
    · simp (maxSteps := 4000000) [List.getElem?_cons_zero, List.getElem?_cons_succ, -Prod.forall, hlt]
      refine ⟨i, k, ⟨by omega, by omega, by omega, ?_, .inr ⟨x, y, hx, hy, hlt⟩⟩, by omega, by simp, by simp⟩
      exact h4
    · simp (maxSteps := 4000000) [List.getElem?_cons_zero, List.getElem?_cons_succ, -Prod.forall, hlt, v6]
      refine ⟨k + 1, j, ⟨by omega, by omega, by omega, .inr ⟨x, y, ?_, ?_, hlt⟩, h5⟩, by omega, by simp⟩
      · rw [← hx]; congr 1; omega
      · rw [← hy]; congr 1
  · obtain rfl : i = j := by omega
    obtain ⟨s, hs⟩ : ∃ s, i - a = s := ⟨_, rfl⟩
    obtain ⟨t, ht⟩ : ∃ t, mid - i = t := ⟨_, rfl⟩
    rw [hs, ht] at h4 h5
    have hcut := mrg_cut h.tp hL hR (s := s) (t := t) (by
      rcases h4 with h4 | h4
      · by_cases q : s = 0
        · exact .inl q
        · exact .inr (.inl (by omega))
      · exact .inr (.inr h4)) (by
      rcases h5 with h5 | h5
      · by_cases q : t = 0
        · exact .inl q
        · exact .inr (.inl (by omega))
      · exact .inr (.inr h5))
    obtain ⟨E, hE⟩ : ∃ E, nn - i = E := ⟨_, rfl⟩
    have v1 : IntKind.i64.wrap ((nn : Int) - i) = (E : Int) := by rw [wrap64 (by omega)]; omega
    have hsL : s ≤ L.length := by omega
    have htR : t ≤ R.length := by omega
    have hi : i = a + s := by omega
    have hmi : mid = a + (s + t) := by omega
    have hEm : E = m + t := by omega
    clear h4 h5
    have hLs := List.take_append_drop s L
    have hRs := List.take_append_drop t R
    have lA : (L.take s).length = s := by simp; omega
    have lB : (L.drop s).length = L.length - s := by simp
    have lC : (R.take t).length = t := by simp; omega
    have lD : (R.drop t).length = R.length - t := by simp
    have sA := srt_take hL s
    have sB := srt_drop hL s
    have sC := srt_take hR t
    have sD := srt_drop hR t
    have QA : ∀ x ∈ L.take s, Q x := fun x hx => hQL x (List.mem_of_mem_take hx)
    have QB : ∀ x ∈ L.drop s, Q x := fun x hx => hQL x (List.mem_of_mem_drop hx)
    have QC : ∀ x ∈ R.take t, Q x := fun x hx => hQR x (List.mem_of_mem_take hx)
    have QD : ∀ x ∈ R.drop t, Q x := fun x hx => hQR x (List.mem_of_mem_drop hx)
    rw [hcut] at hfin
    generalize L.take s = A at *
    generalize L.drop s = B at *
    generalize R.take t = C at *
    generalize R.drop t = F at *
    subst hLs hRs
    simp only [List.length_append] at *
    have hrot : 0 < B.length → 0 < C.length → _ := fun q1 q2 => rotate_eqL b σ (pre ++ A) B C (F ++ post) g N i m E hN (by simp; omega) (by simp; omega) (by omega) (by omega) q1 q2 hb
    have hm1 : 0 < A.length → 0 < C.length → _ := fun q1 q2 => ih (s + t) (by omega) b σ pre A C (B ++ (F ++ post)) N a i mid (by omega) hN (by simp; omega) ha (by omega) (by omega) q1 q2 sA sC QA QC hb
    have hm2 : 0 < B.length → 0 < F.length → _ := fun q1 q2 => ih (B.length + F.length) (by omega) b σ (pre ++ mrg c A C) B F post N mid E e rfl hN (by simp [(mrg_perm A C).length_eq]; omega) (by simp [(mrg_perm A C).length_eq]; omega) (by omega) (by omega) q1 q2 sB sD QB QD hb
    simp only [List.append_assoc] at hrot hm1 hm2 hfin hD
    rw [hD] at hrot
    have n1 : ¬ (0 < B.length ∧ 0 < C.length) → rowE esL D = rowE esL (pre ++ (A ++ (C ++ (B ++ (F ++ post))))) := by
      intro q
      rw [← hD]
      rcases Nat.eq_zero_or_pos B.length with q1 | q1
      · rw [List.length_eq_zero_iff.1 q1]; simp
      · rw [List.length_eq_zero_iff.1 (show C.length = 0 by omega)]; simp
    have n2 : ¬ (0 < A.length ∧ 0 < C.length) → rowE esL (pre ++ (A ++ (C ++ (B ++ (F ++ post))))) = rowE esL (pre ++ (mrg c A C ++ (B ++ (F ++ post)))) := by
      intro q
      rcases Nat.eq_zero_or_pos A.length with q1 | q1
      · rw [List.length_eq_zero_iff.1 q1]; simp
      · rw [List.length_eq_zero_iff.1 (show C.length = 0 by omega)]; simp
    have n3 : ¬ (0 < B.length ∧ 0 < F.length) → rowE esL (pre ++ (mrg c A C ++ (B ++ (F ++ post)))) = fin := by
      intro q
      rw [← hfin]
      rcases Nat.eq_zero_or_pos B.length with q1 | q1
      · rw [List.length_eq_zero_iff.1 q1]; simp
      · rw [List.length_eq_zero_iff.1 (show F.length = 0 by omega)]; simp
    rw [hfin] at hm2
    generalize rowE esL D = X0 at *
    generalize rowE esL (pre ++ (A ++ (C ++ (B ++ (F ++ post))))) = X1 at *
    generalize rowE esL (pre ++ (mrg c A C ++ (B ++ (F ++ post)))) = X2 at *
    clear hfin hcut hDL hDR ih k05 k06 k07 hD hDl
    have hrot' : i < m → m < E → _ := fun q1 q2 => hrot (by omega) (by omega)
    have hm1' : a < i → i < mid → _ := fun q1 q2 => hm1 (by omega) (by omega)
    have hm2' : mid < E → E < e → _ := fun q1 q2 => hm2 (by omega) (by omega)
    clear hrot hm1 hm2
    by_cases c1 : i < m <;> by_cases c2 : m < E <;> by_cases c4 : i < mid <;> by_cases c5 : mid < E <;> (first | (exfalso; omega) | skip)
    all_goals by_cases c3 : a < i <;> by_cases c6 : E < e <;> (first | (exfalso; omega) | skip)
    all_goals
      (try have e1 := n1 (by omega)
       try have e2 := n2 (by omega)
       try have e3 := n3 (by omega)
       clear n1 n2 n3
       try subst e1
       try subst e2
       try subst e3
       clear lA lB lC lD sA sB sC sD QA QB QC QD hL hR hQL hQR hL0 hR0 hsL htR hn hNe hi hmi hEm hm he)
    all_goals
      (simp (maxSteps := 4000000) [List.getElem?_cons_zero, List.getElem?_cons_succ, -Prod.forall, v1, c1, c2, c3, c4, c5, c6, hrot', hm1', hm2']
       try rw [need_of hlow])
end Go.Proofs.Tryz.Ai
end
section
/- Sorting a row of texts: all of it. -/
namespace Go.Proofs.Tryz.Ai
open Go Go.AI Go.Proofs
set_option maxHeartbeats 2000000
set_option linter.unusedVariables false

theorem stable_eqL {g : Nat} {c : ((List UInt8 × List UInt8) × Int × List UInt8) → ((List UInt8 × List UInt8) × Int × List UInt8) → Int} {Q : ((List UInt8 × List UInt8) × Int × List UInt8) → Prop} (h : CmpOkL g c Q) (b : Nat) (σ : List (List AV)) (L : List ((List UInt8 × List UInt8) × Int × List UInt8)) (n : Nat) (hL : ∀ x ∈ L, Q x) (hn : L.length = n) (hN : n ≤ 2 ^ 30) (hb : b < σ.length) :
    ev 128 [.ms 42 4 b 0 n, .int .i64 n, .fn g []] (σ.set b (rowE esL L)) = some (.tup [], σ.set b (rowE esL (isrt c L))) := by
  refine EV_post rfl Tryz.func128 rfl (by simp [Tryz.ntmps128]) (by kernel_rfl) (by kernel_rfl) ?_
  simp (maxSteps := 4000000) [List.getElem?_cons_zero, List.getElem?_cons_succ, -Prod.forall]
  refine Post_loop (I := fun q : Nat => ⟨[(0, .ms 42 4 b 0 n), (1, .int .i64 n), (2, .fn g []), (6, .int .i64 20), (7, .int .i64 ((20 * q : Nat) : Int)), (8, .int .i64 ((20 * q + 20 : Nat) : Int))], [], σ.set b (rowE esL (blk c 20 (L.take (20 * q)) ++ L.drop (20 * q)))⟩)
    (Pr := fun q => 20 * q ≤ n) (μ := fun q => n - 20 * q) (a := 0) (by simp [blk_small, isrt]) (by simp) ?_
  intro q hq
  obtain ⟨a, ha⟩ : ∃ a, 20 * q = a := ⟨_, rfl⟩
  rw [ha] at hq ⊢
  have hpl : (blk c 20 (L.take a)).length = a := by rw [blk_len]; simp; omega
  by_cases hc : a + 20 ≤ n
  · have hX : L.drop a = (L.drop a).take 20 ++ L.drop (a + 20) := by rw [← List.drop_drop, List.take_append_drop]
    have hins := insertion_eqL h b σ (blk c 20 (L.take a)) ((L.drop a).take 20) (L.drop (a + 20)) (fun x hx => hL x (List.mem_of_mem_drop (List.mem_of_mem_take hx))) n a (a + 20) hN (by rw [hpl]; simp; omega) hpl.symm (by simp; omega) hb
    rw [← hX, ← List.append_assoc, ← blk_next (by omega) q ha.symm (by omega)] at hins
    have w1 : IntKind.i64.wrap (((a + 20 : Nat) : Int) + 20) = ((a + 20 + 20 : Nat) : Int) := by rw [wrap64 (by omega)]; omega
    obtain ⟨a2, ha2⟩ : ∃ z, a + 20 = z := ⟨_, rfl⟩
    rw [ha2] at hins w1 hc ⊢
    simp (maxSteps := 4000000) [List.getElem?_cons_zero, List.getElem?_cons_succ, -Prod.forall, hc, hins, w1]
    refine ⟨q + 1, by omega, by omega, by omega, ?_⟩
    rw [show 20 * (q + 1) = a2 by omega]
  · obtain ⟨a2, ha2⟩ : ∃ z, a + 20 = z := ⟨_, rfl⟩
    have hins := insertion_eqL h b σ (blk c 20 (L.take a)) (L.drop a) [] (fun x hx => hL x (List.mem_of_mem_drop hx)) n a n hN (by rw [hpl]; simp; omega) hpl.symm (by simp; omega) hb
    rw [List.append_nil, List.append_nil, ← blk_last (by omega) q ha.symm (by omega) (by omega)] at hins
    rw [ha2] at hc ⊢
    simp (maxSteps := 4000000) [List.getElem?_cons_zero, List.getElem?_cons_succ, -Prod.forall, hc, hins]
    refine Post_loop (I := fun k : Nat => ⟨[(0, .ms 42 4 b 0 n), (1, .int .i64 n), (2, .fn g []), (6, .int .i64 k)], [], σ.set b (rowE esL (blk c k L))⟩)
      (Pr := fun k => 0 < k ∧ k ≤ 2 ^ 31) (μ := fun k => n - k) (a := 20) (by simp) (by simp) ?_
    clear hins hpl hc ha ha2 hq
    rintro k ⟨hk0, hk⟩
    by_cases hkn : k < n
    · have w1 : IntKind.i64.wrap (2 * (k : Int)) = ((2 * k : Nat) : Int) := by rw [wrap64 (by omega)]; omega
      obtain ⟨k2, hk2⟩ : ∃ z, 2 * k = z := ⟨_, rfl⟩
      rw [hk2] at w1
      simp (maxSteps := 4000000) [List.getElem?_cons_zero, List.getElem?_cons_succ, -Prod.forall, hkn, w1]
      refine Post_loop (I := fun q : Nat => ⟨[(0, .ms 42 4 b 0 n), (1, .int .i64 n), (2, .fn g []), (6, .int .i64 k), (7, .int .i64 ((k2 * q : Nat) : Int)), (8, .int .i64 ((k2 * q + k2 : Nat) : Int))], [], σ.set b (rowE esL (blk c k2 (L.take (k2 * q)) ++ blk c k (L.drop (k2 * q))))⟩)
        (Pr := fun q => k2 * q ≤ n) (μ := fun q => n - k2 * q) (a := 0) (by simp [blk_small, isrt]) (by simp) ?_
      intro q hq
      obtain ⟨a, ha⟩ : ∃ a, k2 * q = a := ⟨_, rfl⟩
      have hq1 : k2 * (q + 1) = a + k2 := by rw [Nat.mul_succ, ha]
      rw [ha] at hq ⊢
      have hpl : (blk c k2 (L.take a)).length = a := by rw [blk_len]; simp; omega
      have hw3 : IntKind.i64.wrap ((a : Int) + k) = ((a + k : Nat) : Int) := by rw [wrap64 (by omega)]; omega
      have hS1 := isrt_srt' h.tp ((L.drop a).take k)
      have hQ1 : ∀ x ∈ isrt c ((L.drop a).take k), Q x := fun x hx => hL x (List.mem_of_mem_drop (List.mem_of_mem_take (isrt_mem.1 hx)))
      by_cases hc : a + k2 ≤ n
      · have e1 : blk c k (L.drop a) = isrt c ((L.drop a).take k) ++ (isrt c ((L.drop (a + k)).take k) ++ blk c k (L.drop (a + k2))) := by
          rw [blk_step hk0, List.drop_drop, blk_step hk0 (L.drop (a + k)), List.drop_drop]
          congr 4; omega
        have hQ2 : ∀ x ∈ isrt c ((L.drop (a + k)).take k), Q x := fun x hx => hL x (List.mem_of_mem_drop (List.mem_of_mem_take (isrt_mem.1 hx)))
        have hm := merge_eqL h _ b σ (blk c k2 (L.take a)) (isrt c ((L.drop a).take k)) (isrt c ((L.drop (a + k)).take k)) (blk c k (L.drop (a + k2))) n a (a + k) (a + k2) rfl hN (by rw [hpl, isrt_len, isrt_len, blk_len]; simp; omega) hpl.symm (by rw [isrt_len]; simp; omega) (by rw [isrt_len]; simp; omega) (by rw [isrt_len]; simp; omega) (by rw [isrt_len]; simp; omega) hS1 (isrt_srt' h.tp _) hQ1 hQ2 hb
        rw [← e1, ← isrt_mrg h.tp, ← List.drop_drop, ← List.take_add, ← List.append_assoc, show k + k = k2 by omega, ← blk_next (by omega) q ha.symm (by omega)] at hm
        obtain ⟨m, hmm⟩ : ∃ z, a + k = z := ⟨_, rfl⟩
        obtain ⟨a2, ha2⟩ : ∃ z, a + k2 = z := ⟨_, rfl⟩
        have w4 : IntKind.i64.wrap ((a2 : Int) + k2) = ((a2 + k2 : Nat) : Int) := by rw [wrap64 (by omega)]; omega
        rw [hmm, ha2] at hm
        rw [hmm] at hw3
        rw [ha2] at hc hq1 ⊢
        simp (maxSteps := 4000000) [List.getElem?_cons_zero, List.getElem?_cons_succ, -Prod.forall, hc, hm, hw3, w1, w4]
        refine ⟨q + 1, by omega, by omega, by rw [← hq1]; simp, ?_⟩
        rw [hq1]
      · obtain ⟨a2, ha2⟩ : ∃ z, a + k2 = z := ⟨_, rfl⟩
        rw [ha2] at hc ⊢
        have w5 : IntKind.i64.wrap ((k : Int) * 2) = (k2 : Int) := by rw [wrap64 (by omega)]; omega
        have hfin : blk c k2 L = blk c k2 (L.take a) ++ isrt c (L.drop a) := blk_last (by omega) q ha.symm (by omega) (by omega)
        obtain ⟨m, hmm⟩ : ∃ z, a + k = z := ⟨_, rfl⟩
        rw [hmm] at hw3
        by_cases hmn : m < n
        · have e1 : blk c k (L.drop a) = isrt c ((L.drop a).take k) ++ isrt c (L.drop m) := by
            rw [blk_step hk0, List.drop_drop, hmm, blk_small (L := L.drop m) (by simp; omega)]
          have hQ2 : ∀ x ∈ isrt c (L.drop m), Q x := fun x hx => hL x (List.mem_of_mem_drop (isrt_mem.1 hx))
          have hm := merge_eqL h _ b σ (blk c k2 (L.take a)) (isrt c ((L.drop a).take k)) (isrt c (L.drop m)) [] n a m n rfl hN (by rw [hpl, isrt_len, isrt_len]; simp; omega) hpl.symm (by rw [isrt_len]; simp; omega) (by rw [isrt_len]; simp; omega) (by rw [isrt_len]; simp; omega) (by rw [isrt_len]; simp; omega) hS1 (isrt_srt' h.tp _) hQ1 hQ2 hb
          rw [List.append_nil, List.append_nil, ← e1, ← isrt_mrg h.tp, ← hmm, ← List.drop_drop, List.take_append_drop, hmm, ← hfin] at hm
          simp (maxSteps := 4000000) [List.getElem?_cons_zero, List.getElem?_cons_succ, -Prod.forall, hc, hm, hw3, hmn, w5]
          exact ⟨k2, by omega, by omega, rfl, rfl⟩
        · have e1 : blk c k2 (L.take a) ++ blk c k (L.drop a) = blk c k2 L := by rw [hfin, blk_small (L := L.drop a) (by simp; omega)]
          rw [e1]
          simp (maxSteps := 4000000) [List.getElem?_cons_zero, List.getElem?_cons_succ, -Prod.forall, hc, hw3, hmn, w5]
          exact ⟨k2, by omega, by omega, rfl, rfl⟩
    · rw [blk_small (by omega)]
      simp (maxSteps := 4000000) [List.getElem?_cons_zero, List.getElem?_cons_succ, -Prod.forall, hkn, Tryz.results128]
theorem sortStable_eqL {g : Nat} {c : ((List UInt8 × List UInt8) × Int × List UInt8) → ((List UInt8 × List UInt8) × Int × List UInt8) → Int} {Q : ((List UInt8 × List UInt8) × Int × List UInt8) → Prop} (h : CmpOkL g c Q) (b : Nat) (σ : List (List AV)) (L : List ((List UInt8 × List UInt8) × Int × List UInt8)) (n : Nat) (hL : ∀ x ∈ L, Q x) (hn : L.length = n) (hN : n ≤ 2 ^ 30) (hb : b < σ.length) :
    ev 82 [.ms 42 4 b 0 n, .fn g []] (σ.set b (rowE esL L)) = some (.tup [], σ.set b (rowE esL (isrt c L))) := by
  have h1 := stable_eqL h b σ L n hL hn hN hb
  refine EV_post rfl Tryz.func82 rfl (by simp [Tryz.ntmps82]) (by kernel_rfl) (by kernel_rfl) ?_
  simp (maxSteps := 4000000) [List.getElem?_cons_zero, List.getElem?_cons_succ, -Prod.forall, h1, Tryz.results82]
end Go.Proofs.Tryz.Ai
end
section
/- sumfile: lines in order; Parse. -/
namespace Go.Proofs.Tryz.Ai
open Go Go.AI Go.Proofs Go.B64
set_option maxHeartbeats 8000000
set_option maxRecDepth 4000
set_option linter.unusedVariables false

theorem TO.intC : TO intC := by
  refine ⟨fun a b => ?_, fun a b => ?_, fun a b e => ?_, fun a b => ?_⟩ <;> unfold Ai.intC <;> (repeat' split) <;> omega
/-- the order of lines -/
def lnC (x y : Ln) : Int := orI (modC x.1 y.1) (intC x.2.1 y.2.1)
theorem TP.lnC : TP lnC := by
  have h := (TO.modC.prod TO.intC).tp.comap (fun x : Ln => (x.1, x.2.1))
  exact h
theorem lnC_zero {x y : Ln} : lnC x y = 0 ↔ x.1 = y.1 ∧ x.2.1 = y.2.1 := by
  have h := (TO.modC.prod TO.intC).eq_iff (x.1, x.2.1) (y.1, y.2.1)
  simp only [Prod.mk.injEq] at h
  exact h
def lnM (x : Ln) : Prop := modQ x.1
theorem order_eqL (a b : Ln) (ha : lnM a) (hb : lnM b) (σ) : ev 83 [lnF a, lnF b] σ = some (.int .i64 (lnC a b), σ) := by
  have h1 := Less_eq a.1 b.1 ha hb
  have h2 := Less_eq b.1 a.1 hb ha
  have h3 := cmpInt_eq a.2.1 b.2.1
  have hfl := TO.modC.flip a.1 b.1
  have hsg := TO.modC.sgn a.1 b.1
  have hC : lnC a b = orI (modC a.1 b.1) (intC a.2.1 b.2.1) := rfl
  rw [hC]
  obtain ⟨⟨a1, a2⟩, a3, a4⟩ := a
  obtain ⟨⟨b1, b2⟩, b3, b4⟩ := b
  simp only [lnFx] at h1 h2 h3 hfl hsg ⊢
  obtain ⟨M, hM⟩ : ∃ M, modC (a1, a2) (b1, b2) = M := ⟨_, rfl⟩
  rw [hM] at h1 hfl hsg ⊢
  rw [hfl] at h2
  refine EV_post rfl Tryz.func83 rfl (by simp [Tryz.ntmps83]) (by kernel_rfl) (by kernel_rfl) ?_
  rcases hsg with rfl | rfl | rfl
  · have hA : orI (-1) (intC a3 b3) = -1 := rfl
    have e1 : decide ((-1 : Int) < 0) = true := by decide
    rw [e1] at h1
    simp (maxSteps := 4000000) [List.getElem?_cons_zero, List.getElem?_cons_succ, h1, hA, Tryz.results83]
  · have hA : orI 0 (intC a3 b3) = intC a3 b3 := rfl
    have e1 : decide ((0 : Int) < 0) = false := by decide
    have e2 : decide (-(0 : Int) < 0) = false := by decide
    rw [e1] at h1
    rw [e2] at h2
    simp (maxSteps := 4000000) [List.getElem?_cons_zero, List.getElem?_cons_succ, h1, h2, h3, hA, Tryz.results83]
  · have hA : orI 1 (intC a3 b3) = 1 := rfl
    have e1 : decide ((1 : Int) < 0) = false := by decide
    have e2 : decide (-(1 : Int) < 0) = true := by decide
    rw [e1] at h1
    rw [e2] at h2
    simp (maxSteps := 4000000) [List.getElem?_cons_zero, List.getElem?_cons_succ, h1, h2, hA, Tryz.results83]
theorem cmp_okL : CmpOkL 83 lnC lnM := ⟨TP.lnC, by decide, fun x y hx hy σ => order_eqL x y hx hy σ⟩
theorem row_esL (l : List Ln) : rowE esL l = flat (l.map lnF) := by
  induction l with
  | nil => rfl
  | cons a l ih => unfold rowE at *; rw [List.flatMap_cons, ih, List.map_cons, flat_cons]; rfl
theorem insertion_nilL (g : Nat) (σ : List (List AV)) : ev 159 [.sl .sh [], .int .i64 0, .int .i64 0, .fn g []] σ = some (.tup [], σ) := by
  refine EV_post rfl Tryz.func159 rfl (by simp [Tryz.ntmps159]) (by kernel_rfl) (by kernel_rfl) ?_
  have w : IntKind.i64.wrap 1 = 1 := by decide
  simp (maxSteps := 4000000) [List.getElem?_cons_zero, List.getElem?_cons_succ, w]
  refine Post_loop (I := fun q : Nat => ⟨[(0, .sl .sh []), (1, .int .i64 0), (2, .int .i64 0), (3, .fn g []), (8, .int .i64 1)], [], σ⟩) (Pr := fun q => True) (μ := fun q => q) (a := 0) (by simp) (by simp) ?_
  intro q hq
  simp (maxSteps := 4000000) [List.getElem?_cons_zero, List.getElem?_cons_succ, ]
theorem stable_nilL (g : Nat) (σ : List (List AV)) : ev 128 [.sl .sh [], .int .i64 0, .fn g []] σ = some (.tup [], σ) := by
  have hI := insertion_nilL g
  refine EV_post rfl Tryz.func128 rfl (by simp [Tryz.ntmps128]) (by kernel_rfl) (by kernel_rfl) ?_
  simp (maxSteps := 4000000) [List.getElem?_cons_zero, List.getElem?_cons_succ, ]
  refine Post_loop (I := fun q : Nat => ⟨[(0, .sl .sh []), (1, .int .i64 0), (2, .fn g []), (6, .int .i64 20), (7, .int .i64 0), (8, .int .i64 20)], [], σ⟩) (Pr := fun q => True) (μ := fun q => q) (a := 0) (by simp) (by simp) ?_
  intro q hq
  simp (maxSteps := 4000000) [List.getElem?_cons_zero, List.getElem?_cons_succ, hI]
  refine Post_loop (I := fun q : Nat => ⟨[(0, .sl .sh []), (1, .int .i64 0), (2, .fn g []), (6, .int .i64 20)], [], σ⟩) (Pr := fun q => True) (μ := fun q => q) (a := 0) (by simp) (by simp) ?_
  intro q hq
  simp (maxSteps := 4000000) [List.getElem?_cons_zero, List.getElem?_cons_succ, Tryz.results128]
theorem sortStable_nilL (g : Nat) (σ : List (List AV)) : ev 82 [.sl .sh [], .fn g []] σ = some (.tup [], σ) := by
  have h1 := stable_nilL g
  refine EV_post rfl Tryz.func82 rfl (by simp [Tryz.ntmps82]) (by kernel_rfl) (by kernel_rfl) ?_
  simp (maxSteps := 4000000) [List.getElem?_cons_zero, List.getElem?_cons_succ, h1, Tryz.results82]
theorem els_rowL (l : List Ln) : els2 true 4 4 (flat (l.map lnF)) 0 l.length = some (l.map lnF) := by
  rw [els2_agg, if_pos (by rw [← row_esL, es_lenL]; omega)]
  congr 1
  apply List.ext_getElem?
  intro i
  by_cases hi : i < l.length
  · obtain ⟨x, hx⟩ : ∃ x, l[i]? = some x := ⟨_, List.getElem?_eq_getElem hi⟩
    have := es_getL hx
    rw [List.getElem?_map, List.getElem?_range hi, List.getElem?_map, hx, ← row_esL]
    simp only [Option.map_some, Nat.zero_add, this]; rfl
  · rw [List.getElem?_eq_none (by simpa using Nat.le_of_not_lt hi), List.getElem?_eq_none (by simpa using Nat.le_of_not_lt hi)]
theorem ordered_eq (l : List Ln) (hl : l.length ≤ 2 ^ 30) (hQ : ∀ x ∈ l, lnM x) (σ : List (List AV)) :
    ev 45 [.sl .sh (l.map lnF)] σ = some (.sl (.ex 42 4) ((isrt lnC l).map lnF), σ) := by
  cases l with
  | nil =>
    have hS := sortStable_nilL 83
    refine EV_post rfl Tryz.func45 rfl (by simp [Tryz.ntmps45]) (by kernel_rfl) (by kernel_rfl) ?_
    simp (maxSteps := 4000000) [List.getElem?_cons_zero, List.getElem?_cons_succ, hS, isrt, Tryz.results45]
  | cons x r =>
    have hS := sortStable_eqL cmp_okL σ.length (σ ++ [[]]) (x :: r) (r.length + 1) hQ (by simp) (by simpa using hl) (by simp)
    rw [row_esL, row_esL] at hS
    obtain ⟨L, hL⟩ : ∃ L, isrt lnC (x :: r) = L := ⟨_, rfl⟩
    have hLl : L.length = r.length + 1 := by rw [← hL, isrt_len]; simp
    have hE := els_rowL L
    rw [hL] at hS ⊢
    rw [hLl] at hE
    have hlow : lowL σ.length (L.map lnF) := by simp [lnF]
    have hall : allCells 4 (r.map lnF) := by simp
    simp [lnF] at hS hl
    refine EV_post rfl Tryz.func45 rfl (by simp [Tryz.ntmps45]) (by kernel_rfl) (by kernel_rfl) ?_
    simp (maxSteps := 4000000) [List.getElem?_cons_zero, List.getElem?_cons_succ, hS, hE, hlow, hall, lnF, Tryz.results45]
    repeat (rw [need_of]; rotate_left; (· (try unfold most); omega); simp (maxSteps := 4000000) [List.getElem?_cons_zero, List.getElem?_cons_succ, hS, hE, hlow, hall, lnF, Tryz.results45])
theorem lineR_len (l : List Ln) (s : List UInt8) : (lineR l s).1.length ≤ l.length + 1 := by
  unfold lineR
  split
  · split
    · simp
    · simp
  · simp
/-- all that is read is as the lines say -/
theorem linesP_mem {read : List Ln → List UInt8 → List Ln × Int} {Q : Ln → Prop} {R : List (List UInt8)} (hq : ∀ l s, s ∈ R → (∀ x ∈ l, Q x) → (read l s).2 = 0 → ∀ x ∈ (read l s).1, Q x) : ∀ (r : List (List UInt8)) (l : List Ln) (n : Nat), (∀ s ∈ r, s ∈ R) → (∀ x ∈ l, Q x) → ∀ l', linesP read l n r = .inl l' → ∀ x ∈ l', Q x := by
  intro r
  induction r with
  | nil => intro l n hr h l' e; rw [linesP] at e; injection e with e; subst e; exact h
  | cons x r ih =>
    intro l n hr h l' e
    by_cases h0 : (read l x).2 = 0
    · cases r with
      | nil =>
        by_cases hx : x = []
        · subst hx; rw [linesP_nil] at e; injection e with e; subst e; exact h
        · rw [linesP_end hx h0] at e; cases e
      | cons y r =>
        rw [linesP_next (by simp) h0] at e
        exact ih _ _ (fun s hs => hr s (List.mem_cons_of_mem _ hs)) (hq l x (hr x (List.mem_cons_self ..)) h h0) l' e
    · cases r with
      | nil =>
        by_cases hx : x = []
        · subst hx; rw [linesP_nil] at e; injection e with e; subst e; exact h
        · rw [linesP_bad (.inl hx) h0] at e; cases e
      | cons y r => rw [linesP_bad (.inr (by simp)) h0] at e; cases e
theorem linesP_err {read : List Ln → List UInt8 → List Ln × Int} : ∀ (r : List (List UInt8)) (l : List Ln) (n n' : Nat) (e : Int), linesP read l n r = .inr (n', e) → e ≠ 0 := by
  intro r
  induction r with
  | nil => intro l n n' e h; rw [linesP] at h; cases h
  | cons x r ih =>
    intro l n n' e h
    by_cases h0 : (read l x).2 = 0
    · cases r with
      | nil =>
        by_cases hx : x = []
        · subst hx; rw [linesP_nil] at h; cases h
        · rw [linesP_end hx h0] at h; injection h with h; injection h with _ h; subst h; decide
      | cons y r =>
        rw [linesP_next (by simp) h0] at h
        exact ih _ _ _ _ h
    · cases r with
      | nil =>
        by_cases hx : x = []
        · subst hx; rw [linesP_nil] at h; cases h
        · rw [linesP_bad (.inl hx) h0] at h; injection h with h; injection h with _ h; subst h; exact h0
      | cons y r => rw [linesP_bad (.inr (by simp)) h0] at h; injection h with h; injection h with _ h; subst h; exact h0
theorem linesP_len {read : List Ln → List UInt8 → List Ln × Int} (hlen : ∀ l s, (read l s).1.length ≤ l.length + 1) : ∀ (r : List (List UInt8)) (l : List Ln) (n : Nat) (l' : List Ln), linesP read l n r = .inl l' → l'.length ≤ l.length + r.length := by
  intro r
  induction r with
  | nil => intro l n l' e; rw [linesP] at e; injection e with e; subst e; simp
  | cons x r ih =>
    intro l n l' e
    by_cases h0 : (read l x).2 = 0
    · cases r with
      | nil =>
        by_cases hx : x = []
        · subst hx; rw [linesP_nil] at e; injection e with e; subst e; simp
        · rw [linesP_end hx h0] at e; cases e
      | cons y r =>
        rw [linesP_next (by simp) h0] at e
        have h1 := ih _ _ _ e
        have h2 := hlen l x
        simp only [List.length_cons] at h1 ⊢
        omega
    · cases r with
      | nil =>
        by_cases hx : x = []
        · subst hx; rw [linesP_nil] at e; injection e with e; subst e; simp
        · rw [linesP_bad (.inl hx) h0] at e; cases e
      | cons y r => rw [linesP_bad (.inr (by simp)) h0] at e; cases e
theorem lineR_mem {Q : Ln → Prop} {l : List Ln} {s : List UInt8} (hl : ∀ x ∈ l, Q x) (h : ∀ p v h, splitB 32 s = [p, v, h] → Q (mkLn p v h)) : ∀ x ∈ (lineR l s).1, Q x := by
  unfold lineR
  split
  · rename_i p v w hw
    split
    · simp
    · intro x hx
      rcases List.mem_append.1 hx with hx | hx
      · exact hl x hx
      · simp only [List.mem_singleton] at hx; subst hx; exact h p v w hw
  · simp
theorem mkLn_len {p v h s : List UInt8} (e : splitB 32 s = [p, v, h]) : (mkLn p v h).1.1.length ≤ s.length ∧ (mkLn p v h).1.2.length ≤ s.length ∧ (mkLn p v h).2.2.length ≤ s.length := by
  have h1 : p.length ≤ s.length := splitB_le (c := 32) (by rw [e]; simp)
  have h2 : v.length ≤ s.length := splitB_le (c := 32) (by rw [e]; simp)
  have h3 : h.length ≤ s.length := splitB_le (c := 32) (by rw [e]; simp)
  unfold mkLn
  split
  · exact ⟨h1, by simp; omega, h3⟩
  · exact ⟨h1, h2, h3⟩
def parseP (text : List UInt8) : List Ln × Nat × Int := if 65536 < text.length then ([], 0, 13) else match linesP lineR [] 0 (splitB 10 text) with
  | .inl l => (isrt lnC l, 0, 0)
  | .inr (n, e) => ([], n, e)
theorem parse_low {text : List UInt8} {l : List Ln} (h : linesP lineR [] 0 (splitB 10 text) = .inl l) : ∀ x ∈ l, x.1.1.length ≤ text.length ∧ x.1.2.length ≤ text.length ∧ x.2.2.length ≤ text.length := by
  refine linesP_mem (R := splitB 10 text) (fun l s hs hl _ => lineR_mem hl fun p v w e => ?_) _ [] 0 (fun s hs => hs) (by simp) l h
  have h1 := mkLn_len e
  have h2 : s.length ≤ text.length := splitB_le hs
  omega
theorem Parse_eq (text : List UInt8) (hs : text.length ≤ 2 ^ 27) (σ) : ev 23 [.str text] σ = some (.tup [.sl .sh ((parseP text).1.map lnF), .int .i64 (parseP text).2.1, .int .i64 (parseP text).2.2], σ) := by
  have hL := lines_eq text hs 51 (by decide) [] lineR lineR_len (fun l s σ h1 h2 => line_eq l h1 s h2 σ)
  refine EV_post rfl Tryz.func23 rfl (by simp [Tryz.ntmps23]) (by kernel_rfl) (by kernel_rfl) ?_
  by_cases hc : 65536 < text.length
  · have hp : parseP text = ([], 0, 13) := by unfold parseP; rw [if_pos hc]
    rw [if_pos hc] at hL
    simp (maxSteps := 4000000) [List.getElem?_cons_zero, List.getElem?_cons_succ, hL, hp, Tryz.results23]
  · rw [if_neg hc] at hL
    cases hq : linesP lineR [] 0 (splitB 10 text) with
    | inl l =>
      have hp : parseP text = (isrt lnC l, 0, 0) := by unfold parseP; rw [if_neg hc, hq]
      rw [hq] at hL
      simp only [linesAV] at hL
      have hll := linesP_len lineR_len _ _ _ _ hq
      have hm := splitB_many 10 text
      have hlow := parse_low hq
      have hO := ordered_eq l (by simp at hll; omega) (fun x hx => ⟨by have := (hlow x hx).1; omega, by have := (hlow x hx).2.1; omega⟩)
      simp (maxSteps := 4000000) [List.getElem?_cons_zero, List.getElem?_cons_succ, hL, hO, hp, Tryz.results23]
    | inr r =>
      obtain ⟨n, e⟩ := r
      have he := linesP_err _ _ _ _ _ hq
      have hp : parseP text = ([], n, e) := by unfold parseP; rw [if_neg hc, hq]
      rw [hq] at hL
      simp only [linesAV] at hL
      simp (maxSteps := 4000000) [List.getElem?_cons_zero, List.getElem?_cons_succ, hL, he, hp, Tryz.results23]
end Go.Proofs.Tryz.Ai
end
section
/- sumfile: locks printed, both. -/
namespace Go.Proofs.Tryz.Ai
open Go Go.AI Go.Proofs Go.B64
set_option maxHeartbeats 8000000
set_option maxRecDepth 4000
set_option linter.unusedVariables false

theorem few_eq (l : List Ln) (hl : l.length ≤ 2 ^ 30) (h : ∀ k ∈ l, k.1.1.length ≤ 2 ^ 30 ∧ k.1.2.length ≤ 2 ^ 30 ∧ k.2.2.length ≤ 2 ^ 30) (σ) : ∃ b, ev 12 [.sl .sh (l.map lnF)] σ = some (.bool b, σ) ∧ (b = true → l.length ≤ 100) := by
  suffices hx : ∃ r : AV × List (List AV), ev 12 [.sl .sh (l.map lnF)] σ = some r ∧ ∃ b, r = (.bool b, σ) ∧ (b = true → l.length ≤ 100) by
    obtain ⟨r, h1, b, rfl, h2⟩ := hx
    exact ⟨b, h1, h2⟩
  refine EV_postE rfl Tryz.func12 rfl (by simp [Tryz.ntmps12]) (by kernel_rfl) (by kernel_rfl) ?_
  simp (maxSteps := 4000000) [List.getElem?_cons_zero, List.getElem?_cons_succ, ]
  refine Post_loop (I := fun p : Nat × Nat => ⟨[(0, .sl .sh (l.map lnF)), (3, .int .i64 p.1), (4, .int .i64 p.2)], [], σ⟩) (Pr := fun p => p.1 ≤ 16000 ∧ p.2 ≤ l.length) (μ := fun p => l.length - p.2) (a := (0, 0)) (by simp) (by simp) ?_
  rintro ⟨n, i⟩ ⟨hn, hi⟩
  simp only at hn hi ⊢
  by_cases hc : i < l.length
  · by_cases h20 : i ≤ 100
    · obtain ⟨k, hx⟩ : ∃ k, l[i]? = some k := ⟨_, List.getElem?_eq_getElem hc⟩
      have hk := h k (List.mem_of_getElem? hx)
      obtain ⟨⟨k1, k2⟩, k3, k4⟩ := k
      simp only at hk
      have mn : ∀ m : Nat, ∃ a : Nat, (if 8000 < m then (8000 : Int) else (m : Int)) = (a : Int) ∧ a ≤ 8000 := fun m => by
        by_cases hq : 8000 < m
        · exact ⟨8000, by rw [if_pos hq]; rfl, by omega⟩
        · exact ⟨m, by rw [if_neg hq], by omega⟩
      obtain ⟨a, ha, ha2⟩ := mn k1.length
      obtain ⟨b, hb, hb2⟩ := mn k2.length
      obtain ⟨d, hd, hd2⟩ := mn k4.length
      have w1 : IntKind.i64.wrap ((n : Int) + a) = ((n + a : Nat) : Int) := by rw [wrap64 (by omega)]; omega
      have w2 : IntKind.i64.wrap (((n + a : Nat) : Int) + b) = ((n + a + b : Nat) : Int) := by rw [wrap64 (by omega)]; omega
      have w4 : IntKind.i64.wrap (((n + a + b : Nat) : Int) + d) = ((n + a + b + d : Nat) : Int) := by rw [wrap64 (by omega)]; omega
      obtain ⟨c, hcc, hc2⟩ : ∃ c : Nat, (if 16000 < n + a + b + d then (16000 : Int) else ((n + a + b + d : Nat) : Int)) = (c : Int) ∧ c ≤ 16000 := by
        by_cases hq : 16000 < n + a + b + d
        · exact ⟨16000, by rw [if_pos hq]; rfl, by omega⟩
        · exact ⟨n + a + b + d, by rw [if_neg hq], by omega⟩
      obtain ⟨na, hna⟩ : ∃ x, n + a = x := ⟨_, rfl⟩
      rw [hna] at w1 w2 w4 hcc
      obtain ⟨nab, hnab⟩ : ∃ x, na + b = x := ⟨_, rfl⟩
      rw [hnab] at w2 w4 hcc
      obtain ⟨nabd, hnabd⟩ : ∃ x, nab + d = x := ⟨_, rfl⟩
      rw [hnabd] at w4 hcc
      have w3 : IntKind.i64.wrap ((i : Int) + 1) = (i : Int) + 1 := wrap64 (by omega)
      simp (maxSteps := 4000000) [List.getElem?_cons_zero, List.getElem?_cons_succ, -getElem?_pos, -Prod.exists, -regionA_true, hc, h20]
      refine Post_bndD [] _ (by rfl) (by simp (maxSteps := 4000000) [List.getElem?_cons_zero, List.getElem?_cons_succ, ]; exact rfl) ?_
      repeat (first
        | refine PostD_go _ (by rfl) (by rfl) (by simp (maxSteps := 4000000) [List.getElem?_cons_zero, List.getElem?_cons_succ, -getElem?_pos, hc, hx, lnFx, ha, hb, hd, w1, w2, w4, hcc]; exact rfl) (by first | exact .inl rfl | exact .inr rfl) (by rfl) ?_
        | refine PostD_no1 _ (by rfl) (by rfl) (by simp (maxSteps := 4000000) [List.getElem?_cons_zero, List.getElem?_cons_succ, ]; exact rfl) ?_)
      refine PostD_end ?_
      simp (maxSteps := 4000000) [List.getElem?_cons_zero, List.getElem?_cons_succ, -Prod.exists, w3]
      exact ⟨(c, i + 1), ⟨by simp; omega, by simp; omega⟩, by simp; omega, by simp⟩
    · have hl20 : ¬ l.length ≤ 100 := by omega
      simp (maxSteps := 4000000) [List.getElem?_cons_zero, List.getElem?_cons_succ, hc, h20, hl20, Tryz.results12]
  · by_cases hl20 : l.length ≤ 100
    · simp (maxSteps := 4000000) [List.getElem?_cons_zero, List.getElem?_cons_succ, hc, hl20, Tryz.results12]
      refine ⟨_, _, ⟨rfl, rfl⟩, ?_⟩
      cases decide (n ≤ 8000) <;> simp
    · simp (maxSteps := 4000000) [List.getElem?_cons_zero, List.getElem?_cons_succ, hc, hl20, Tryz.results12]
/-- for the document -/
theorem Lines_eq (l : List Ln) (hl : l.length ≤ 2 ^ 30) (σ) : ev 15 [.sl .sh (l.map lnF)] σ = some (.sl (.ex 82 4) (l.map lnF), σ) := by
  refine EV_post rfl Tryz.func15 rfl (by simp [Tryz.ntmps15]) (by kernel_rfl) (by kernel_rfl) ?_
  simp (maxSteps := 4000000) [List.getElem?_cons_zero, List.getElem?_cons_succ, ]
  refine Post_loop (I := fun i : Nat => ⟨[(0, .sl .sh (l.map lnF)), (3, .sl (.ex 82 4) ((l.map lnF).take i)), (4, .int .i64 i)], [], σ⟩) (Pr := fun i => i ≤ l.length) (μ := fun i => l.length - i) (a := 0) (by simp) (by simp) ?_
  intro i hi
  have w1 : IntKind.i64.wrap ((i : Int) + 1) = (i : Int) + 1 := wrap64 (by omega)
  by_cases hc : i < l.length
  · obtain ⟨x, hx⟩ : ∃ x, l[i]? = some x := ⟨_, List.getElem?_eq_getElem hc⟩
    have hfin : (l.map lnF).take (i + 1) = (l.map lnF).take i ++ [lnF x] := by rw [List.take_add_one, List.getElem?_map, hx]; rfl
    have hLl : ((l.map lnF).take i).length = i := by rw [List.length_take, List.length_map]; omega
    have hall : allCells 4 ((l.map lnF).take i) := fun c hc => by
      obtain ⟨z, _, hz⟩ := List.mem_map.mp (List.mem_of_mem_take hc)
      rw [← hz]; simp [lnF, AV.cells]
    have hm : ((l.map lnF).take i).length + 1 ≤ most := by rw [hLl]; unfold most; omega
    obtain ⟨L, hL⟩ : ∃ L, (l.map lnF).take i = L := ⟨_, rfl⟩
    rw [hL] at hfin hLl hall hm ⊢
    obtain ⟨⟨x1, x2⟩, x3, x4⟩ := x
    simp (maxSteps := 4000000) [List.getElem?_cons_zero, List.getElem?_cons_succ, -getElem?_pos, -Prod.forall, -regionA_true, hc]
    refine Post_bndD [] _ (by rfl) (by simp (maxSteps := 4000000) [List.getElem?_cons_zero, List.getElem?_cons_succ, ]; exact rfl) ?_
    repeat (first
      | refine PostD_go _ (by rfl) (by rfl) (by simp (maxSteps := 4000000) [List.getElem?_cons_zero, List.getElem?_cons_succ, -getElem?_pos, hc, hx, lnFx, hm, hall]; exact rfl) (by first | exact .inl rfl | exact .inr rfl) (by rfl) ?_
      | refine PostD_no1 _ (by rfl) (by rfl) (by simp (maxSteps := 4000000) [List.getElem?_cons_zero, List.getElem?_cons_succ, ]; exact rfl) ?_)
    refine PostD_end ?_
    simp (maxSteps := 4000000) [List.getElem?_cons_zero, List.getElem?_cons_succ, -Prod.forall, w1]
    exact ⟨i + 1, by omega, by omega, by rw [hfin]; simp [lnF], by simp⟩
  · have e : (l.map lnF).take i = l.map lnF := List.take_of_length_le (by rw [List.length_map]; omega)
    rw [e]
    simp (maxSteps := 4000000) [List.getElem?_cons_zero, List.getElem?_cons_succ, hc, Tryz.results15]
theorem SameLines_eq (a b : List Ln) (ha : a.length ≤ 2 ^ 30) (σ) : ev 19 [.sl .sh (a.map lnF), .sl .sh (b.map lnF)] σ = some (.bool (decide (a = b)), σ) := by
  refine EV_post rfl Tryz.func19 rfl (by simp [Tryz.ntmps19]) (by kernel_rfl) (by kernel_rfl) ?_
  by_cases hl : a.length = b.length
  · simp (maxSteps := 4000000) [List.getElem?_cons_zero, List.getElem?_cons_succ, hl]
    refine Post_loop (I := fun i : Nat => ⟨[(0, .sl .sh (a.map lnF)), (1, .sl .sh (b.map lnF)), (5, .int .i64 i)], [], σ⟩) (Pr := fun i => i ≤ a.length ∧ a.take i = b.take i) (μ := fun i => a.length - i) (a := 0) (by simp) (by simp) ?_
    rintro i ⟨i1, i2⟩
    have w1 : IntKind.i64.wrap ((i : Int) + 1) = (i : Int) + 1 := wrap64 (by omega)
    by_cases hc : i < a.length
    · obtain ⟨x, hx⟩ : ∃ z, a[i]? = some z := ⟨_, List.getElem?_eq_getElem hc⟩
      obtain ⟨y, hy⟩ : ∃ z, b[i]? = some z := ⟨_, List.getElem?_eq_getElem (by omega)⟩
      have hcb : i < b.length := by omega
      have hne : x ≠ y → decide (a = b) = false := fun h => by
        rw [decide_eq_false_iff_not]
        intro e; subst e
        rw [hx] at hy; injection hy with hy; exact h hy
      obtain ⟨⟨x1, x2⟩, x3, x4⟩ := x
      obtain ⟨⟨y1, y2⟩, y3, y4⟩ := y
      by_cases e1 : (x1 == y1 && x2 == y2) = true
      · by_cases e3 : x3 = y3
        · by_cases e4 : (x4 == y4) = true
          · have hxy : (((x1, x2), x3, x4) : Ln) = ((y1, y2), y3, y4) := by
              simp at e1 e4
              rw [e1.1, e1.2, e3, e4]
            rw [hxy] at hx
            simp (maxSteps := 4000000) [List.getElem?_cons_zero, List.getElem?_cons_succ, -getElem?_pos, -Prod.exists, -Prod.forall, -Bool.and_eq_true, -beq_iff_eq, -regionA_true, hl, hc, hcb]
            refine Post_bndD [] _ (by rfl) (by simp (maxSteps := 4000000) [List.getElem?_cons_zero, List.getElem?_cons_succ, ]; exact rfl) ?_
            repeat (first
              | refine PostD_go _ (by rfl) (by rfl) (by simp (maxSteps := 4000000) [List.getElem?_cons_zero, List.getElem?_cons_succ, -getElem?_pos, -Bool.and_eq_true, -beq_iff_eq, hc, hcb, hl, hx, hy, lnFx, e1, eq_true e3, e4]; exact rfl) (by first | exact .inl rfl | exact .inr rfl) (by rfl) ?_
              | refine PostD_no1 _ (by rfl) (by rfl) (by simp (maxSteps := 4000000) [List.getElem?_cons_zero, List.getElem?_cons_succ, ]; exact rfl) ?_)
            refine PostD_end ?_
            simp (maxSteps := 4000000) [List.getElem?_cons_zero, List.getElem?_cons_succ, -Prod.exists, -Prod.forall, w1]
            exact ⟨i + 1, ⟨by omega, by rw [List.take_add_one, List.take_add_one, hx, hy, i2]⟩, by omega, by simp⟩
          · have hh := hne (fun e => e4 (by simp at e; simp [e.2.2]))
            have e4' : (x4 == y4) = false := by simpa using e4
            simp (maxSteps := 4000000) [List.getElem?_cons_zero, List.getElem?_cons_succ, -getElem?_pos, -Prod.exists, -Prod.forall, -Bool.and_eq_true, -beq_iff_eq, -regionA_true, hl, hc, hcb]
            refine Post_bndD [] _ (by rfl) (by simp (maxSteps := 4000000) [List.getElem?_cons_zero, List.getElem?_cons_succ, ]; exact rfl) ?_
            repeat (first
              | refine PostD_go _ (by rfl) (by rfl) (by simp (maxSteps := 4000000) [List.getElem?_cons_zero, List.getElem?_cons_succ, -getElem?_pos, -Bool.and_eq_true, -beq_iff_eq, -beq_eq_false_iff_ne, hc, hcb, hl, hx, hy, lnFx, e1, eq_true e3, e4']; exact rfl) (by first | exact .inl rfl | exact .inr rfl) (by rfl) ?_
              | refine PostD_no1 _ (by rfl) (by rfl) (by simp (maxSteps := 4000000) [List.getElem?_cons_zero, List.getElem?_cons_succ, ]; exact rfl) ?_)
            refine PostD_end ?_
            simp (maxSteps := 4000000) [List.getElem?_cons_zero, List.getElem?_cons_succ, hh, Tryz.results19]
        · have hh := hne (fun e => e3 (by simp at e; exact e.2.1))
          simp (maxSteps := 4000000) [List.getElem?_cons_zero, List.getElem?_cons_succ, -getElem?_pos, -Prod.exists, -Prod.forall, -Bool.and_eq_true, -beq_iff_eq, -regionA_true, hl, hc, hcb]
          refine Post_bndD [] _ (by rfl) (by simp (maxSteps := 4000000) [List.getElem?_cons_zero, List.getElem?_cons_succ, ]; exact rfl) ?_
          repeat (first
            | refine PostD_go _ (by rfl) (by rfl) (by simp (maxSteps := 4000000) [List.getElem?_cons_zero, List.getElem?_cons_succ, -getElem?_pos, -Bool.and_eq_true, -beq_iff_eq, hc, hcb, hl, hx, hy, lnFx, e1, e3]; exact rfl) (by first | exact .inl rfl | exact .inr rfl) (by rfl) ?_
            | refine PostD_no1 _ (by rfl) (by rfl) (by simp (maxSteps := 4000000) [List.getElem?_cons_zero, List.getElem?_cons_succ, ]; exact rfl) ?_)
          refine PostD_end ?_
          simp (maxSteps := 4000000) [List.getElem?_cons_zero, List.getElem?_cons_succ, hh, Tryz.results19]
      · have hh := hne (fun e => e1 (by simp at e; simp [e.1]))
        have e1' : (x1 == y1 && x2 == y2) = false := by simpa using e1
        simp (maxSteps := 4000000) [List.getElem?_cons_zero, List.getElem?_cons_succ, -getElem?_pos, -Prod.exists, -Prod.forall, -Bool.and_eq_true, -beq_iff_eq, -regionA_true, hl, hc, hcb]
        refine Post_bndD [] _ (by rfl) (by simp (maxSteps := 4000000) [List.getElem?_cons_zero, List.getElem?_cons_succ, ]; exact rfl) ?_
        repeat (first
          | refine PostD_go _ (by rfl) (by rfl) (by simp (maxSteps := 4000000) [List.getElem?_cons_zero, List.getElem?_cons_succ, -getElem?_pos, -Bool.and_eq_true, -Bool.and_eq_false_imp, -beq_iff_eq, hc, hcb, hl, hx, hy, lnFx, e1']; exact rfl) (by first | exact .inl rfl | exact .inr rfl) (by rfl) ?_
          | refine PostD_no1 _ (by rfl) (by rfl) (by simp (maxSteps := 4000000) [List.getElem?_cons_zero, List.getElem?_cons_succ, ]; exact rfl) ?_)
        refine PostD_end ?_
        simp (maxSteps := 4000000) [List.getElem?_cons_zero, List.getElem?_cons_succ, hh, Tryz.results19]
    · have hab : a = b := by
        rw [List.take_of_length_le (by omega), List.take_of_length_le (by omega)] at i2
        exact i2
      have hd : decide (a = b) = true := by rw [hab]; simp
      have hcb : ¬ i < b.length := by omega
      simp (maxSteps := 4000000) [List.getElem?_cons_zero, List.getElem?_cons_succ, hcb, hc, hl, hd, Tryz.results19]
  · have hd : decide (a = b) = false := by rw [decide_eq_false_iff_not]; intro e; exact hl (by rw [e])
    simp (maxSteps := 4000000) [List.getElem?_cons_zero, List.getElem?_cons_succ, hl, hd, Tryz.results19]
end Go.Proofs.Tryz.Ai
end
section
/- sumfile: locks are merged, cut down. -/
namespace Go.Proofs.Tryz.Ai
open Go Go.AI Go.Proofs Go.B64
set_option maxHeartbeats 8000000
set_option maxRecDepth 4000
set_option linter.unusedVariables false

def lnK (x : Ln) : (List UInt8 × List UInt8) × Int := (x.1, x.2.1)
theorem isLn_key (x y : Ln) : isLn x.1 x.2.1 y = decide (lnK y = lnK x) := by
  unfold isLn lnK
  obtain ⟨⟨x1, x2⟩, x3, x4⟩ := x
  obtain ⟨⟨y1, y2⟩, y3, y4⟩ := y
  by_cases h1 : y1 = x1 <;> by_cases h2 : y2 = x2 <;> by_cases h3 : y3 = x3 <;> simp [h1, h2, h3]
theorem findP_key (l : List Ln) (x : Ln) : findP l x.1 x.2.1 = (l.find? (fun y => decide (lnK y = lnK x))).map (·.2.2) := by
  unfold findP
  congr 2
  exact funext fun y => isLn_key x y
theorem lnK_ext {x y : Ln} (h : lnK x = lnK y) (e : x.2.2 = y.2.2) : x = y := by
  unfold lnK at h
  injection h with h1 h2
  exact Prod.ext h1 (Prod.ext h2 e)
theorem lnC_key (x y : Ln) : lnC x y = 0 → lnK x = lnK y := fun h => by
  obtain ⟨h1, h2⟩ := lnC_zero.1 h
  unfold lnK; rw [h1, h2]
/-- one step of a merge -/
theorem mrgL_step (out : List Ln) (x : Ln) (r : List Ln) :
    mrgF lnK out (x :: r) = match findP out x.1 x.2.1 with | some s => if s = x.2.2 then mrgF lnK out r else none | none => mrgF lnK (out ++ [x]) r := by
  rw [mrgF, findP_key]
  cases hf : out.find? (fun y => decide (lnK y = lnK x)) with
  | none => rfl
  | some y =>
    have hk := find_key hf
    simp only [Option.map_some]
    by_cases h : y = x
    · rw [if_pos h, h, if_pos rfl]
    · rw [if_neg h, if_neg (fun e => h (lnK_ext hk.2 e))]
def mrgP (a b : List Ln) : List Ln × Int := match mrgF lnK [] (a ++ b) with | some o => (isrt lnC o, 0) | none => ([], 28)
def mrgI (A B : List Ln) (R : Option (List Ln)) (out rest : List Ln) : Prop := mrgF lnK out rest = R ∧ out.length + rest.length ≤ A.length + B.length ∧ ∀ x ∈ out, x ∈ A ++ B
theorem Merge_eq (a b : List Ln) (ha : a.length ≤ 2 ^ 28) (hb : b.length ≤ 2 ^ 28) (hQ : ∀ x ∈ a ++ b, lnM x) (σ) : ev 13 [.sl .sh (a.map lnF), .sl .sh (b.map lnF)] σ = some (.tup [.sl .sh ((mrgP a b).1.map lnF), .int .i64 (mrgP a b).2], σ) := by
  refine EV_post rfl Tryz.func13 rfl (by simp [Tryz.ntmps13]) (by kernel_rfl) (by kernel_rfl) ?_
  simp (maxSteps := 4000000) [List.getElem?_cons_zero, List.getElem?_cons_succ, ]
  obtain ⟨R, hR⟩ : ∃ R, mrgF lnK [] (a ++ b) = R := ⟨_, rfl⟩
  obtain ⟨T80, hT⟩ : ∃ T, T = (80 : Nat) := ⟨_, rfl⟩
  refine Post_loop (I := fun p : Nat × List Ln => ⟨[(6, .sl (.ex 42 4) (p.2.map lnF)), (15, .sl (.ex 22 1) [.sl .sh (a.map lnF), .sl .sh (b.map lnF)]), (16, .int .i64 2), (17, .int .i64 p.1)], [], σ⟩)
    (Pr := fun p => p.1 ≤ 2 ∧ mrgI a b R p.2 (if p.1 = 0 then a ++ b else if p.1 = 1 then b else [])) (μ := fun p => 2 - p.1) (a := (0, [])) (by simp) ⟨by simp, by simpa using hR, by simp, by simp⟩ ?_
  rintro ⟨i, out⟩ ⟨hi, hI⟩
  simp only at hi hI ⊢
  have w1 : IntKind.i64.wrap ((i : Int) + 1) = (i : Int) + 1 := wrap64 (by omega)
  by_cases hc : i < 2
  · obtain ⟨cur, tl, hcur, hrest, hnext, hcl⟩ : ∃ cur tl : List Ln, ([.sl .sh (a.map lnF), .sl .sh (b.map lnF)] : List AV)[i]? = some (.sl .sh (cur.map lnF)) ∧ (if i = 0 then a ++ b else if i = 1 then b else []) = cur ++ tl ∧ (if i + 1 = 0 then a ++ b else if i + 1 = 1 then b else []) = tl ∧ cur.length ≤ 2 ^ 28 := by
      rcases (by omega : i = 0 ∨ i = 1) with rfl | rfl
      · exact ⟨a, b, rfl, rfl, rfl, ha⟩
      · exact ⟨b, [], rfl, by simp, rfl, hb⟩
    rw [hrest] at hI
    obtain ⟨AB, hAB⟩ : ∃ L, ([.sl .sh (a.map lnF), .sl .sh (b.map lnF)] : List AV) = L := ⟨_, rfl⟩
    rw [hAB] at hcur ⊢
    simp (maxSteps := 4000000) [List.getElem?_cons_zero, List.getElem?_cons_succ, -getElem?_pos, -Prod.exists, -Prod.forall, hc, hcur]
    refine Post_loop (I := fun q : Nat × List Ln => ⟨[(6, .sl (.ex 42 4) (q.2.map lnF)), (15, .sl (.ex 22 1) AB), (16, .int .i64 2), (17, .int .i64 i), (21, .sl .sh (cur.map lnF)), (22, .int .i64 cur.length), (23, .int .i64 q.1)], [], σ⟩)
      (Pr := fun q => q.1 ≤ cur.length ∧ mrgI a b R q.2 (cur.drop q.1 ++ tl)) (μ := fun q => cur.length - q.1) (a := (0, out)) (by simp) ⟨by simp, by simpa using hI⟩ ?_
    rintro ⟨j, out⟩ ⟨hj, hI⟩
    simp only at hj hI ⊢
    have w2 : IntKind.i64.wrap ((j : Int) + 1) = (j : Int) + 1 := wrap64 (by omega)
    by_cases hc2 : j < cur.length
    · obtain ⟨x, hx⟩ : ∃ x, cur[j]? = some x := ⟨_, List.getElem?_eq_getElem hc2⟩
      have hdr : cur.drop j ++ tl = x :: (cur.drop (j + 1) ++ tl) := by rw [List.drop_eq_getElem_cons hc2, List.cons_append, (List.getElem?_eq_some_iff.1 hx).2]
      rw [hdr] at hI
      obtain ⟨hI1, hI2, hI3⟩ := hI
      rw [mrgL_step] at hI1
      have hF := Find_eq out (by omega) x.1 x.2.1
      have hall : allCells 4 (out.map lnF) := by simp
      have hm : (out.map lnF).length + 1 ≤ most := by rw [List.length_map]; unfold most; omega
      have hxm : x ∈ a ++ b := by
        have hm1 : x ∈ cur ++ tl := List.mem_append_left _ (List.mem_of_getElem? hx)
        rw [← hrest] at hm1
        split at hm1
        · exact hm1
        · split at hm1
          · exact List.mem_append_right _ hm1
          · cases hm1
      cases hf : findP out x.1 x.2.1 with
      | none =>
        rw [hf] at hI1
        have hA : findAV (none : Option (List UInt8)) = .tup [.str [], .bool false] := rfl
        rw [hf, hA] at hF
        have hfin : (out ++ [x]).map lnF = out.map lnF ++ [lnF x] := by simp
        have hout : ∀ z ∈ out ++ [x], z ∈ a ++ b := fun z hz => by
          rcases List.mem_append.1 hz with h | h
          · exact hI3 z h
          · rw [List.mem_singleton] at h; rw [h]; exact hxm
        obtain ⟨⟨x1, x2⟩, x3, x4⟩ := x
        simp only at hF
        obtain ⟨L, hL⟩ : ∃ L, out.map lnF = L := ⟨_, rfl⟩
        rw [hL] at hF hall hm hfin ⊢
        simp (maxSteps := 4000000) [List.getElem?_cons_zero, List.getElem?_cons_succ, -getElem?_pos, -Prod.exists, -Prod.forall, hc2, hx, lnFx, hF, hall, hm, w2]
        exact ⟨(j + 1, out ++ [((x1, x2), x3, x4)]), ⟨by simp; omega, hI1, by simp at hI2 ⊢; omega, hout⟩, by simp; omega, by simp [hfin, lnF]⟩
      | some s =>
        rw [hf] at hI1
        have hA : findAV (some s) = .tup [.str s, .bool true] := rfl
        rw [hf, hA] at hF
        by_cases hs : s = x.2.2
        · simp only at hI1
          rw [if_pos hs] at hI1
          obtain ⟨⟨x1, x2⟩, x3, x4⟩ := x
          simp only at hF hs
          have hs' : (s == x4) = true := by simpa using hs
          obtain ⟨L, hL⟩ : ∃ L, out.map lnF = L := ⟨_, rfl⟩
          rw [hL] at hF hall hm ⊢
          simp (maxSteps := 4000000) [List.getElem?_cons_zero, List.getElem?_cons_succ, -getElem?_pos, -Prod.exists, -Prod.forall, -beq_iff_eq, hc2, hx, lnFx, hF, hs', w2]
          exact ⟨(j + 1, out), ⟨by simp; omega, hI1, by simp at hI2 ⊢; omega, hI3⟩, by simp; omega, by simp [hL]⟩
        · simp only at hI1
          rw [if_neg hs] at hI1
          have hp : mrgP a b = ([], 28) := by unfold mrgP; rw [hR, ← hI1]
          obtain ⟨⟨x1, x2⟩, x3, x4⟩ := x
          simp only at hF hs
          have hs' : (s == x4) = false := by simpa using hs
          obtain ⟨L, hL⟩ : ∃ L, out.map lnF = L := ⟨_, rfl⟩
          rw [hL] at hF hall hm ⊢
          simp (maxSteps := 4000000) [List.getElem?_cons_zero, List.getElem?_cons_succ, -getElem?_pos, -beq_eq_false_iff_ne, hc2, hx, lnFx, hF, hs', hp, Tryz.results13]
    · rw [List.drop_of_length_le (by omega), List.nil_append] at hI
      simp (maxSteps := 4000000) [List.getElem?_cons_zero, List.getElem?_cons_succ, -getElem?_pos, -Prod.exists, -Prod.forall, hc2, w1]
      exact ⟨(i + 1, out), ⟨by simp; omega, by simp only; rw [hnext]; exact hI⟩, by simp; omega, by simp [hAB]⟩
  · have hi2 : i = 2 := by omega
    subst hi2
    obtain ⟨hI1, hI2, hI3⟩ := hI
    simp at hI1 hI2
    rw [mrgF] at hI1
    have hp : mrgP a b = (isrt lnC out, 0) := by unfold mrgP; rw [hR, ← hI1]
    have hO := ordered_eq out (by omega) (fun x hx => hQ x (hI3 x hx))
    simp (maxSteps := 4000000) [List.getElem?_cons_zero, List.getElem?_cons_succ, hO, hp, Tryz.results13]
/-- is a module among some? -/
theorem ContainsM_eq (K : List (List UInt8 × List UInt8)) (hK : K.length ≤ 2 ^ 30) (m : List UInt8 × List UInt8) (σ) : ev 49 [.sl .sh (K.map fun m => .agg [.str m.1, .str m.2]), .agg [.str m.1, .str m.2]] σ = some (.bool (K.any (m == ·)), σ) := by
  obtain ⟨m1, m2⟩ := m
  have h1 : ∀ σ, ev 88 [.sl .sh (K.map fun m => .agg [.str m.1, .str m.2]), .agg [.str m1, .str m2]] σ = some (.int .i64 (fixA K ((m1, m2) == ·)), σ) := by
    intro σ
    refine EV_post rfl Tryz.func88 rfl (by simp [Tryz.ntmps88]) (by kernel_rfl) (by kernel_rfl) ?_
    simp (maxSteps := 4000000) [List.getElem?_cons_zero, List.getElem?_cons_succ, ]
    refine Post_loop (I := fun i : Nat => ⟨[(0, .sl .sh (K.map fun m => .agg [.str m.1, .str m.2])), (3, .lp 3 0), (7, .int .i64 K.length), (8, .int .i64 i)], [(3, [.str m1, .str m2])], σ⟩) (Pr := fun i => i ≤ K.length ∧ (K.take i).any ((m1, m2) == ·) = false) (μ := fun i => K.length - i) (a := 0) (by simp) (by simp) ?_
    rintro i ⟨hi, hn⟩
    have w1 : IntKind.i64.wrap ((i : Int) + 1) = (i : Int) + 1 := wrap64 (by omega)
    by_cases hc : i < K.length
    · obtain ⟨k, hk⟩ : ∃ k, K[i]? = some k := ⟨_, List.getElem?_eq_getElem hc⟩
      have hin := any_take_succ hk hn
      have hfx := fixA_at hk hn
      obtain ⟨k1, k2⟩ := k
      have hkk : (((m1, m2) : List UInt8 × List UInt8) == (k1, k2)) = (m1 == k1 && m2 == k2) := rfl
      simp only [hkk] at hin hfx
      cases hp : (m1 == k1 && m2 == k2) with
      | true =>
        have hfx := hfx hp
        simp (maxSteps := 4000000) [List.getElem?_cons_zero, List.getElem?_cons_succ, -getElem?_pos, -regionA_true, -Bool.and_eq_true, -beq_iff_eq, hc, hk]
        refine Post_bndD [] _ (by rfl) (by simp (maxSteps := 4000000) [List.getElem?_cons_zero, List.getElem?_cons_succ, ]; exact rfl) ?_
        repeat (first
          | refine PostD_go _ (by rfl) (by rfl) (by simp (maxSteps := 4000000) [List.getElem?_cons_zero, List.getElem?_cons_succ, -getElem?_pos, -Bool.and_eq_true, -beq_iff_eq, hc, hk, hp]; exact rfl) (by first | exact .inl rfl | exact .inr rfl) (by rfl) ?_
          | refine PostD_no1 _ (by rfl) (by rfl) (by simp (maxSteps := 4000000) [List.getElem?_cons_zero, List.getElem?_cons_succ, ]; exact rfl) ?_)
        refine PostD_end ?_
        simp (maxSteps := 4000000) [List.getElem?_cons_zero, List.getElem?_cons_succ, hfx, Tryz.results88]
      | false =>
        rw [hp] at hin
        simp (maxSteps := 4000000) [List.getElem?_cons_zero, List.getElem?_cons_succ, -getElem?_pos, -regionA_true, -Bool.and_eq_false_imp, -beq_iff_eq, hc, hk]
        refine Post_bndD [] _ (by rfl) (by simp (maxSteps := 4000000) [List.getElem?_cons_zero, List.getElem?_cons_succ, ]; exact rfl) ?_
        repeat (first
          | refine PostD_go _ (by rfl) (by rfl) (by simp (maxSteps := 4000000) [List.getElem?_cons_zero, List.getElem?_cons_succ, -getElem?_pos, -Bool.and_eq_false_imp, -beq_iff_eq, hc, hk, hp]; exact rfl) (by first | exact .inl rfl | exact .inr rfl) (by rfl) ?_
          | refine PostD_no1 _ (by rfl) (by rfl) (by simp (maxSteps := 4000000) [List.getElem?_cons_zero, List.getElem?_cons_succ, ]; exact rfl) ?_)
        refine PostD_end ?_
        simp (maxSteps := 4000000) [List.getElem?_cons_zero, List.getElem?_cons_succ, -Prod.exists, -Prod.forall, w1]
        exact ⟨i + 1, ⟨by omega, by simpa using hin⟩, by omega, by simp⟩
    · rw [List.take_of_length_le (by omega)] at hn
      have hfx : fixA K ((m1, m2) == ·) = -1 := fixA_none hn
      simp (maxSteps := 4000000) [List.getElem?_cons_zero, List.getElem?_cons_succ, hc, hfx, Tryz.results88]
  have h2 := fixA_nn K ((m1, m2) == ·)
  refine EV_post rfl Tryz.func49 rfl (by simp [Tryz.ntmps49]) (by kernel_rfl) (by kernel_rfl) ?_
  simp (maxSteps := 4000000) [List.getElem?_cons_zero, List.getElem?_cons_succ, h1, h2, Tryz.results49]
def keepP (l : List Ln) (K : List (List UInt8 × List UInt8)) : List Ln := l.filter fun x => K.any (x.1 == ·)
def keepI (l : List Ln) (K : List (List UInt8 × List UInt8)) (i : Nat) (out : List Ln) : Prop := i ≤ l.length ∧ out = keepP (l.take i) K
theorem Keep_eq (l : List Ln) (hl : l.length ≤ 2 ^ 30) (K : List (List UInt8 × List UInt8)) (hK : K.length ≤ 2 ^ 30) (σ) : ev 18 [.sl .sh (l.map lnF), .sl .sh (K.map fun m => .agg [.str m.1, .str m.2])] σ = some (.sl (.ex 42 4) ((keepP l K).map lnF), σ) := by
  have hC := fun m => ContainsM_eq K hK m
  refine EV_post rfl Tryz.func18 rfl (by simp [Tryz.ntmps18]) (by kernel_rfl) (by kernel_rfl) ?_
  obtain ⟨KK, hKK⟩ : ∃ L, (K.map fun m => AV.agg [.str m.1, .str m.2]) = L := ⟨_, rfl⟩
  rw [hKK] at hC ⊢
  simp (maxSteps := 4000000) [List.getElem?_cons_zero, List.getElem?_cons_succ, ]
  refine Post_loop (I := fun p : Nat × List Ln => ⟨[(1, .sl .sh KK), (5, .sl (.ex 42 4) (p.2.map lnF)), (8, .sl .sh (l.map lnF)), (9, .int .i64 l.length), (10, .int .i64 p.1)], [], σ⟩) (Pr := fun p => keepI l K p.1 p.2) (μ := fun p => l.length - p.1) (a := (0, [])) (by simp) ⟨by simp, by simp [keepP]⟩ ?_
  rintro ⟨i, out⟩ ⟨hi, ho⟩
  simp only at hi ho ⊢
  have w1 : IntKind.i64.wrap ((i : Int) + 1) = (i : Int) + 1 := wrap64 (by omega)
  by_cases hc : i < l.length
  · obtain ⟨x, hx⟩ : ∃ x, l[i]? = some x := ⟨_, List.getElem?_eq_getElem hc⟩
    have hol : out.length ≤ l.length := by
      rw [ho]; unfold keepP
      exact Nat.le_trans (List.length_filter_le ..) (by simp; omega)
    have hk : keepP (l.take (i + 1)) K = keepP (l.take i) K ++ if K.any (x.1 == ·) then [x] else [] := by
      unfold keepP
      rw [List.take_add_one, hx, List.filter_append]
      congr 1
      simp only [Option.toList_some, List.filter_cons, List.filter_nil]
    have hC := hC x.1
    have hall : allCells 4 (out.map lnF) := by simp
    have hm : (out.map lnF).length + 1 ≤ most := by rw [List.length_map]; unfold most; omega
    cases hq : K.any (x.1 == ·) with
    | true =>
      rw [hq] at hC hk
      have hfin : (out ++ [x]).map lnF = out.map lnF ++ [lnF x] := by simp
      have hnx : keepI l K (i + 1) (out ++ [x]) := ⟨by omega, by rw [hk, ho]; rfl⟩
      obtain ⟨⟨x1, x2⟩, x3, x4⟩ := x
      simp only at hC
      obtain ⟨L, hL⟩ : ∃ L, out.map lnF = L := ⟨_, rfl⟩
      rw [hL] at hall hm hfin ⊢
      simp (maxSteps := 4000000) [List.getElem?_cons_zero, List.getElem?_cons_succ, -getElem?_pos, -Prod.exists, -Prod.forall, hc, hx, lnFx, hC, hall, hm, w1]
      exact ⟨(i + 1, out ++ [((x1, x2), x3, x4)]), hnx, by simp; omega, by simp [hfin, lnF]⟩
    | false =>
      rw [hq] at hC hk
      have hnx : keepI l K (i + 1) out := ⟨by omega, by rw [hk, ho]; simp⟩
      obtain ⟨⟨x1, x2⟩, x3, x4⟩ := x
      simp only at hC
      obtain ⟨L, hL⟩ : ∃ L, out.map lnF = L := ⟨_, rfl⟩
      rw [hL] at hall hm ⊢
      simp (maxSteps := 4000000) [List.getElem?_cons_zero, List.getElem?_cons_succ, -getElem?_pos, -Prod.exists, -Prod.forall, hc, hx, lnFx, hC, w1]
      exact ⟨(i + 1, out), hnx, by simp; omega, by simp [hL]⟩
  · have ho2 : keepP l K = out := by rw [ho, List.take_of_length_le (by omega)]
    rw [ho2]
    simp (maxSteps := 4000000) [List.getElem?_cons_zero, List.getElem?_cons_succ, hc, Tryz.results18]
theorem alike_eq (a b : List Ln) (ha : a.length ≤ 2 ^ 30) (hb : b.length ≤ 2 ^ 30) (σ) : ev 22 [.sl .sh (a.map lnF), .sl .sh (b.map lnF)] σ = some (.bool (decide (a = b)), σ) := by
  have h1 := Lines_eq b hb
  have h2 := SameLines_eq a b ha
  refine EV_post rfl Tryz.func22 rfl (by simp [Tryz.ntmps22]) (by kernel_rfl) (by kernel_rfl) ?_
  simp (maxSteps := 4000000) [List.getElem?_cons_zero, List.getElem?_cons_succ, h1, h2, Tryz.results22]
end Go.Proofs.Tryz.Ai
end
section
/- sumfile: a lock is printed. -/
namespace Go.Proofs.Tryz.Ai
open Go Go.AI Go.Proofs Go.B64
set_option maxHeartbeats 8000000
set_option maxRecDepth 4000
set_option linter.unusedVariables false

/-- a printed line -/
def lnT (x : Ln) : List UInt8 := x.1.1 ++ [32] ++ x.1.2 ++ (if x.2.1 = 1 then goMod else []) ++ ([32] ++ x.2.2 ++ [10])
/-- its error -/
def lnE (ahead : List Ln) (x : Ln) : Int := if x.2.1 ≠ 0 ∧ x.2.1 ≠ 1 then 7 else checkL ahead x
def fmtE (ahead : List Ln) : List Ln → Int
  | [] => 0
  | x :: r => if lnE ahead x ≠ 0 then lnE ahead x else fmtE (ahead ++ [x]) r
def fmtT (l : List Ln) : List UInt8 := (isrt lnC l).flatMap lnT
def fmtP (l : List Ln) : List UInt8 × Int := if fmtE [] l ≠ 0 then ([], fmtE [] l) else if 65536 < (fmtT l).length then ([], 13) else (fmtT l, 0)
def lnS (x : Ln) : Prop := x.1.1.length ≤ 2 ^ 20 ∧ x.1.2.length ≤ 2 ^ 20 ∧ x.2.2.length ≤ 2 ^ 20
/-- the loop that checks -/
def fmtI (l : List Ln) (E : Int) (i : Nat) : Prop := i ≤ l.length ∧ fmtE (l.take i) (l.drop i) = E
def bufI (L : List Ln) (i : Nat) (o : Option (List UInt8)) : Prop := i ≤ L.length ∧ txt o = (L.take i).flatMap lnT
end Go.Proofs.Tryz.Ai
end
section
/- mewslaw5.first: yes. -/
namespace Go.Proofs.Tryz.Ai
open Go Go.AI Go.Proofs Go.B64
set_option maxHeartbeats 8000000
set_option maxRecDepth 4000
set_option linter.unusedVariables false

def fsum : List UInt8 := [104, 49, 58, 71, 66, 51, 86, 43, 82, 72, 89, 74, 48, 70, 104, 53, 121, 86, 100, 107, 114, 47, 70, 74, 50, 78, 76, 120, 120, 85, 47, 106, 99, 81, 102, 79, 117, 101, 74, 51, 49, 88, 99, 69, 80, 69, 61]
theorem fsum_ok : sumB fsum = true := by decide +kernel
theorem fcheck : checkB [97, 46, 98, 47, 99] [118, 49, 46, 48, 46, 48] = 0 := by decide +kernel
def ft1 : List UInt8 := [97, 46, 98, 47, 99, 32, 118, 49, 46, 48, 46, 48, 47, 103, 111, 46, 109, 111, 100, 32, 104, 49, 58, 71, 66, 51, 86, 43, 82, 72, 89, 74, 48, 70, 104, 53, 121, 86, 100, 107, 114, 47, 70, 74, 50, 78, 76, 120, 120, 85, 47, 106, 99, 81, 102, 79, 117, 101, 74, 51, 49, 88, 99, 69, 80, 69, 61, 10]
def ft2 : List UInt8 := [97, 46, 98, 47, 99, 32, 32, 118, 49, 46, 48, 46, 48, 32, 104, 49, 58, 71, 66, 51, 86, 43, 82, 72, 89, 74, 48, 70, 104, 53, 121, 86, 100, 107, 114, 47, 70, 74, 50, 78, 76, 120, 120, 85, 47, 106, 99, 81, 102, 79, 117, 101, 74, 51, 49, 88, 99, 69, 80, 69, 61, 10]
theorem fp1 : parseP ft1 = ([(([97, 46, 98, 47, 99], [118, 49, 46, 48, 46, 48]), 1, fsum)], 0, 0) := by
  have h1 : splitB 10 ft1 = [ft1.take 67, []] := by decide +kernel
  have h2 : splitB 32 (ft1.take 67) = [[97, 46, 98, 47, 99], [118, 49, 46, 48, 46, 48, 47, 103, 111, 46, 109, 111, 100], fsum] := by decide +kernel
  have h3 : mkLn [97, 46, 98, 47, 99] [118, 49, 46, 48, 46, 48, 47, 103, 111, 46, 109, 111, 100] fsum = (([97, 46, 98, 47, 99], [118, 49, 46, 48, 46, 48]), 1, fsum) := by
    unfold mkLn; rw [if_pos (by decide)]; rfl
  have h4 : lineR [] (ft1.take 67) = ([(([97, 46, 98, 47, 99], [118, 49, 46, 48, 46, 48]), 1, fsum)], 0) := by
    unfold lineR
    rw [h2]
    simp only
    rw [if_neg (by simp [fsum]), h3]
    have : checkL [] (([97, 46, 98, 47, 99], [118, 49, 46, 48, 46, 48]), 1, fsum) = 0 := by
      unfold checkL
      simp only [fcheck, fsum_ok]
      simp
    rw [this]; rfl
  unfold parseP
  rw [if_neg (by decide), h1, linesP_next (by simp) (by rw [h4]), h4, linesP_nil]
  rfl
theorem fp2 : parseP ft2 = ([], 1, 11) := by
  have h1 : splitB 10 ft2 = [ft2.take 61, []] := by decide +kernel
  have h2 : (splitB 32 (ft2.take 61)).length ≠ 3 := by decide +kernel
  unfold parseP
  rw [if_neg (by decide), h1, linesP_bad (.inr (by simp)) (by rw [lineR_not h2]; decide), lineR_not h2]
theorem fg1 : globB [97, 63, 99] [97, 98, 99] = true := by
  rw [globB_iff, MG_one (by decide)]
  refine ⟨97, _, rfl, .inl rfl, ?_⟩
  rw [MG_one (by decide)]
  refine ⟨98, _, rfl, .inr ⟨rfl, by decide⟩, ?_⟩
  rw [MG_one (by decide)]
  exact ⟨99, _, rfl, .inl rfl, rfl⟩
theorem fg2 : globB [42] [97, 47, 98] = false := by
  rw [Bool.eq_false_iff, Ne, globB_iff, MG_star]
  rintro ⟨x, t, h, hx, ht⟩
  cases ht
  rw [List.append_nil] at h
  subst h
  exact hx (by decide)
theorem first_eq (σ) : ev 11 [] σ = some (.bool true, σ) := by
  have h1 := Parse_eq ft1 (by decide)
  have h2 := Parse_eq ft2 (by decide)
  have h3 := ValidSum_eq fsum (by decide)
  have h4 := ValidSum_eq [104, 49, 58, 97, 98, 99] (by decide)
  have h5 : sumB [104, 49, 58, 97, 98, 99] = false := by decide +kernel
  have h6 := Glob_eq [97, 63, 99] [97, 98, 99] (by decide) (by decide)
  have h7 := Glob_eq [42] [97, 47, 98] (by decide) (by decide)
  have h8 := fun e => Num_eq e
  rw [fp1] at h1
  rw [fp2] at h2
  rw [fsum_ok] at h3
  rw [h5] at h4
  rw [fg1] at h6
  rw [fg2] at h7
  simp only [List.map_cons, List.map_nil, lnFx] at h1 h2
  unfold ft1 fsum at h1
  unfold ft2 at h2
  unfold fsum at h3
  refine EV_post rfl Tryz.func11 rfl (by simp [Tryz.ntmps11]) (by kernel_rfl) (by kernel_rfl) ?_
  simp (maxSteps := 4000000) [List.getElem?_cons_zero, List.getElem?_cons_succ, h1, h2, h3, h4, h6, h7, h8, Tryz.results11]
end Go.Proofs.Tryz.Ai
end
section
/- The document's lines: order, one line, Parse. -/
namespace Go.Proofs.Tryz.Ai
open Go Go.AI Go.Proofs Go.B64
set_option maxHeartbeats 8000000
set_option maxRecDepth 4000
set_option linter.unusedVariables false

theorem rless_eq (a b : Ln) (ha : lnM a) (hb : lnM b) (σ) : ev 86 [lnF a, lnF b] σ = some (.bool (decide (lnC a b < 0)), σ) := by
  have h1 := rLess_eq a.1 b.1 ha hb
  have h2 := rLess_eq b.1 a.1 hb ha
  have hfl := TO.modC.flip a.1 b.1
  have hsg := TO.modC.sgn a.1 b.1
  have hC : lnC a b = orI (modC a.1 b.1) (intC a.2.1 b.2.1) := rfl
  rw [hC]
  obtain ⟨⟨a1, a2⟩, a3, a4⟩ := a
  obtain ⟨⟨b1, b2⟩, b3, b4⟩ := b
  simp only [lnFx] at h1 h2 hfl hsg ⊢
  obtain ⟨M, hM⟩ : ∃ M, modC (a1, a2) (b1, b2) = M := ⟨_, rfl⟩
  rw [hM] at h1 hfl hsg ⊢
  rw [hfl] at h2
  refine EV_post rfl Tryz.func86 rfl (by simp [Tryz.ntmps86]) (by kernel_rfl) (by kernel_rfl) ?_
  rcases hsg with rfl | rfl | rfl
  · have hA : orI (-1) (intC a3 b3) = -1 := rfl
    have e1 : decide ((-1 : Int) < 0) = true := by decide
    rw [e1] at h1
    simp (maxSteps := 4000000) [List.getElem?_cons_zero, List.getElem?_cons_succ, h1, hA, Tryz.results86]
  · have hA : orI 0 (intC a3 b3) = intC a3 b3 := rfl
    have e1 : decide ((0 : Int) < 0) = false := by decide
    have e2 : decide (-(0 : Int) < 0) = false := by decide
    have e3 : decide (intC a3 b3 < 0) = decide (a3 < b3) := by
      rw [decide_eq_decide]; unfold intC; split <;> (try split) <;> omega
    rw [e1] at h1
    rw [e2] at h2
    simp (maxSteps := 4000000) [List.getElem?_cons_zero, List.getElem?_cons_succ, h1, h2, hA, e3, Tryz.results86]
  · have hA : orI 1 (intC a3 b3) = 1 := rfl
    have e1 : decide ((1 : Int) < 0) = false := by decide
    have e2 : decide (-(1 : Int) < 0) = true := by decide
    rw [e1] at h1
    rw [e2] at h2
    simp (maxSteps := 4000000) [List.getElem?_cons_zero, List.getElem?_cons_succ, h1, h2, hA, Tryz.results86]
theorem rordered_eq (l : List Ln) (hl : l.length ≤ 2 ^ 30) (hQ : ∀ x ∈ l, lnM x) (σ : List (List AV)) : ev 46 [.sl .sh (l.map lnF)] σ = some (.sl (.ex 82 4) ((isrt lnC l).map lnF), σ) := by
  have tp := TP.lnC
  refine EV_post rfl Tryz.func46 rfl (by simp [Tryz.ntmps46]) (by kernel_rfl) (by kernel_rfl) ?_
  simp (maxSteps := 4000000) [List.getElem?_cons_zero, List.getElem?_cons_succ, -Prod.forall]
  refine Post_loop (I := fun k : Nat => ⟨[(0, .sl .sh (l.map lnF)), (3, .sl (.ex 82 4) ((isrt lnC (l.take k)).map lnF)), (4, .int .i64 k)], [], σ⟩) (Pr := fun k => k ≤ l.length) (μ := fun k => l.length - k) (a := 0) (by simp [isrt]) (by simp) ?_
  intro k hk
  by_cases hc : k < l.length
  · obtain ⟨x, hx⟩ : ∃ z, l[k]? = some z := ⟨_, List.getElem?_eq_getElem hc⟩
    have hQx := hQ x (List.mem_of_getElem? hx)
    have hS : isrt lnC (l.take (k + 1)) = mrg lnC (isrt lnC (l.take k)) [x] := by
      rw [List.take_add_one, hx]; exact isrt_snoc tp _ _
    have hSs := isrt_srt' tp (l.take k)
    have hSl : (isrt lnC (l.take k)).length = k := by rw [isrt_len]; simp; omega
    have hSQ : ∀ y ∈ isrt lnC (l.take k), lnM y := fun y hy => hQ y (List.mem_of_mem_take (isrt_mem.1 hy))
    generalize isrt lnC (l.take k) = S at *
    simp (maxSteps := 4000000) [List.getElem?_cons_zero, List.getElem?_cons_succ, -Prod.forall, hc, hSl]
    refine Post_loop (I := fun u : Nat => ⟨[(0, .sl .sh (l.map lnF)), (3, .sl (.ex 82 4) (S.map lnF)), (4, .int .i64 k), (5, .int .i64 u)], [], σ⟩) (Pr := fun u => u ≤ k ∧ ∀ v ∈ S.drop u, lnC x v < 0) (μ := fun u => u) (a := k) (by simp) (by simp [← hSl]) ?_
    rintro u ⟨hu, hV⟩
    have hfin : (∀ y, (S.take u).getLast? = some y → ¬ lnC x y < 0) → isrt lnC (l.take (k + 1)) = S.take u ++ x :: S.drop u := by
      intro hq
      rw [hS]
      have : S = S.take u ++ S.drop u := (List.take_append_drop u S).symm
      conv => lhs; rw [this]
      refine mrg_one (fun y hy => ?_) hV
      obtain ⟨i, hi, hy⟩ := mem_take_get hy
      obtain ⟨z, hz⟩ : ∃ z, S[u - 1]? = some z := ⟨_, List.getElem?_eq_getElem (by omega)⟩
      have h1 := hq z (by
        obtain ⟨w, rfl⟩ : ∃ w, u = w + 1 := ⟨u - 1, by omega⟩
        rw [List.take_add_one, show S[w]? = some z from hz]; simp)
      exact tp.nlt.2 (tp.trans _ _ _ (srt_get tp hSs (by omega) hy hz) (tp.nlt.1 h1))
    have w1 : IntKind.i64.wrap ((k : Int) + 1) = (k : Int) + 1 := wrap64 (by omega)
    have ku : u ≤ S.length := by omega
    cases u with
    | zero =>
      have hf := hfin (by simp)
      simp (maxSteps := 4000000) [List.getElem?_cons_zero, List.getElem?_cons_succ, -Prod.forall, -regionA_true]
      refine Post_bndD [] _ (by rfl) (by simp (maxSteps := 4000000) [List.getElem?_cons_zero, List.getElem?_cons_succ, ]; exact rfl) ?_
      repeat (first
        | refine PostD_go _ (by rfl) (by rfl) (by simp (maxSteps := 4000000) [List.getElem?_cons_zero, List.getElem?_cons_succ, ]; exact rfl) (by first | exact .inl rfl | exact .inr rfl) (by rfl) ?_
        | refine PostD_no (by rfl) (by rfl) ?_)
      refine PostD_end ?_
      simp (maxSteps := 4000000) [List.getElem?_cons_zero, List.getElem?_cons_succ, -getElem?_pos, hx, w1, lnF]
      repeat (rw [need_of]; rotate_left; (· (try unfold most); omega); simp (maxSteps := 4000000) [List.getElem?_cons_zero, List.getElem?_cons_succ, -getElem?_pos, hx, w1, lnF])
      exact ⟨k + 1, by omega, by omega, by rw [hf]; simp [lnF], by simp⟩
    | succ w =>
      obtain ⟨y, hy⟩ : ∃ y, S[w]? = some y := ⟨_, List.getElem?_eq_getElem (by omega)⟩
      have hQy := hSQ y (List.mem_of_getElem? hy)
      have hcmp := rless_eq x y hQx hQy
      simp only [lnFx] at hcmp
      have hfl := tp.flip y x
      have w2 : IntKind.i64.wrap ((w : Int) + 1 - 1) = (w : Int) := by rw [wrap64 (by omega)]; omega
      have p4 : w < S.length := by omega
      have p5 : (0 : Int) < (w : Int) + 1 := by omega
      obtain ⟨v, hv⟩ : ∃ v, w + 1 = v := ⟨_, rfl⟩
      have hv2 : (w : Int) + 1 = (v : Int) := by omega
      have w3 : IntKind.i64.wrap ((v : Int) - 1) = (w : Int) := by rw [wrap64 (by omega)]; omega
      have p6 : 0 < v := by omega
      have kv : v ≤ S.length := by omega
      simp (maxSteps := 4000000) [List.getElem?_cons_zero, List.getElem?_cons_succ, -Prod.forall, -regionA_true, hv2]
      refine Post_bndD [] _ (by rfl) (by simp (maxSteps := 4000000) [List.getElem?_cons_zero, List.getElem?_cons_succ, ]; exact rfl) ?_
      repeat (first
        | refine PostD_go _ (by rfl) (by rfl) (by simp (maxSteps := 4000000) [List.getElem?_cons_zero, List.getElem?_cons_succ, -getElem?_pos, hc, hx, hy, w3, p4, p6, hcmp, lnF]; exact rfl) (by first | exact .inl rfl | exact .inr rfl) (by rfl) ?_
        | refine PostD_no (by rfl) (by rfl) ?_)
      refine PostD_end ?_
      by_cases hlt : lnC x y < 0
      · have hV2 : ∀ v ∈ S.drop w, lnC x v < 0 := by
          have hd : S.drop w = y :: S.drop (w + 1) := by rw [List.drop_eq_getElem_cons (by omega)]; congr 1; exact (List.getElem?_eq_some_iff.1 hy).2
          rw [hd]
          intro v hv
          rcases List.mem_cons.1 hv with rfl | hv
          · exact hlt
          · exact hV v hv
        have hgt : lnC x y < 0 := hlt
        simp (maxSteps := 4000000) [List.getElem?_cons_zero, List.getElem?_cons_succ, -Prod.forall, hgt, w3]
        exact ⟨by omega, hV2⟩
      · have hf := hfin (fun z hz => by
          have : (S.take (w + 1)).getLast? = some y := by rw [List.take_add_one, hy]; simp
          rw [this] at hz; injection hz with hz; subst hz; exact hlt)
        have hgt : ¬ lnC x y < 0 := hlt
        rw [hv] at hf
        have hT : List.take v (S.map lnF) = (S.take v).map lnF := (List.map_take ..).symm
        have hD : List.drop v (S.map lnF) = (S.drop v).map lnF := (List.map_drop ..).symm
        have lT : (S.take v).length = v := by simp; omega
        have lD : (S.drop v).length = S.length - v := by simp
        clear hfin hV hlt hS
        generalize S.take v = A at *
        generalize S.drop v = B at *
        simp (maxSteps := 4000000) [List.getElem?_cons_zero, List.getElem?_cons_succ, -getElem?_pos, hgt, hx, w1, kv, hT, hD, lnF]
        repeat (rw [need_of]; rotate_left; (· (try unfold most); omega); simp (maxSteps := 4000000) [List.getElem?_cons_zero, List.getElem?_cons_succ, -getElem?_pos, hgt, hx, w1, kv, hT, hD, lnF])
        exact ⟨k + 1, by omega, by omega, by rw [hf]; simp [lnF], by simp⟩
  · have hk' : l.take k = l := List.take_of_length_le (by omega)
    rw [hk']
    simp (maxSteps := 4000000) [List.getElem?_cons_zero, List.getElem?_cons_succ, -Prod.forall, hc, Tryz.results46]
end Go.Proofs.Tryz.Ai
end
section
/- sumfile: the document's merge, search and cut. -/
namespace Go.Proofs.Tryz.Ai
open Go Go.AI Go.Proofs Go.B64
set_option maxHeartbeats 8000000
set_option maxRecDepth 4000
set_option linter.unusedVariables false

theorem find_at {α : Type} {K : List α} {p : α → Bool} {i : Nat} {k : α} (hk : K[i]? = some k) (hn : (K.take i).any p = false) (hp : p k = true) : K.find? p = some k := by
  obtain ⟨hi, hk⟩ := List.getElem?_eq_some_iff.1 hk
  have e : K = K.take i ++ k :: K.drop (i + 1) := by rw [← hk, ← List.drop_eq_getElem_cons hi, List.take_append_drop]
  have h0 : (K.take i).find? p = none := List.find?_eq_none.2 fun x hx => by have := List.any_eq_false.1 hn x hx; simpa using this
  rw [e, List.find?_append, List.find?_cons, hp, h0]; rfl
theorem find_no {α : Type} {K : List α} {p : α → Bool} (hn : K.any p = false) : K.find? p = none :=
  List.find?_eq_none.2 fun x hx => by have := List.any_eq_false.1 hn x hx; simpa using this
theorem rFind_eq (l : List Ln) (hl : l.length ≤ 2 ^ 30) (m : List UInt8 × List UInt8) (k : Int) (σ) : ev 17 [.sl .sh (l.map lnF), .agg [.str m.1, .str m.2], .int .i64 k] σ = some (findAV (findP l m k), σ) := by
  obtain ⟨m1, m2⟩ := m
  refine EV_post rfl Tryz.func17 rfl (by simp [Tryz.ntmps17]) (by kernel_rfl) (by kernel_rfl) ?_
  simp (maxSteps := 4000000) [List.getElem?_cons_zero, List.getElem?_cons_succ, ]
  refine Post_loop (I := fun i : Nat => ⟨[(0, .sl .sh (l.map lnF)), (2, .int .i64 k), (4, .lp 4 0), (8, .int .i64 i)], [(4, [.str m1, .str m2])], σ⟩) (Pr := fun i => i ≤ l.length ∧ (l.take i).any (isLn (m1, m2) k) = false) (μ := fun i => l.length - i) (a := 0) (by simp) (by simp) ?_
  rintro i ⟨hi, hn⟩
  have w1 : IntKind.i64.wrap ((i : Int) + 1) = (i : Int) + 1 := wrap64 (by omega)
  by_cases hc : i < l.length
  · obtain ⟨y, hy⟩ : ∃ y, l[i]? = some y := ⟨_, List.getElem?_eq_getElem hc⟩
    have hin := any_take_succ hy hn
    have hat := find_at hy hn
    obtain ⟨⟨y1, y2⟩, y3, y4⟩ := y
    have hI : isLn (m1, m2) k ((y1, y2), y3, y4) = ((y1 == m1 && y2 == m2) && decide (y3 = k)) := rfl
    by_cases e1 : (y1 == m1 && y2 == m2) = true
    · by_cases e3 : y3 = k
      · have hA : findAV (findP l (m1, m2) k) = .tup [.str y4, .bool true] := by unfold findP findAV; rw [hat (by rw [hI, e1, decide_eq_true e3]; rfl)]; rfl
        simp (maxSteps := 4000000) [List.getElem?_cons_zero, List.getElem?_cons_succ, -getElem?_pos, -Prod.exists, -Bool.and_eq_true, -beq_iff_eq, -regionA_true, hc]
        refine Post_bndD [] _ (by rfl) (by simp (maxSteps := 4000000) [List.getElem?_cons_zero, List.getElem?_cons_succ, ]; exact rfl) ?_
        repeat (first
          | refine PostD_go _ (by rfl) (by rfl) (by simp (maxSteps := 4000000) [List.getElem?_cons_zero, List.getElem?_cons_succ, -getElem?_pos, -Bool.and_eq_true, -beq_iff_eq, hc, hy, lnFx, e1, eq_true e3]; exact rfl) (by first | exact .inl rfl | exact .inr rfl) (by rfl) ?_
          | refine PostD_no1 _ (by rfl) (by rfl) (by simp (maxSteps := 4000000) [List.getElem?_cons_zero, List.getElem?_cons_succ, ]; exact rfl) ?_)
        refine PostD_end ?_
        simp (maxSteps := 4000000) [List.getElem?_cons_zero, List.getElem?_cons_succ, -getElem?_pos, hc, hy, lnFx, hA, Tryz.results17]
      · rw [hI, e1, decide_eq_false e3] at hin
        simp (maxSteps := 4000000) [List.getElem?_cons_zero, List.getElem?_cons_succ, -getElem?_pos, -Prod.exists, -Prod.forall, -Bool.and_eq_true, -beq_iff_eq, -regionA_true, hc]
        refine Post_bndD [] _ (by rfl) (by simp (maxSteps := 4000000) [List.getElem?_cons_zero, List.getElem?_cons_succ, ]; exact rfl) ?_
        repeat (first
          | refine PostD_go _ (by rfl) (by rfl) (by simp (maxSteps := 4000000) [List.getElem?_cons_zero, List.getElem?_cons_succ, -getElem?_pos, -Bool.and_eq_true, -beq_iff_eq, hc, hy, lnFx, e1, e3]; exact rfl) (by first | exact .inl rfl | exact .inr rfl) (by rfl) ?_
          | refine PostD_no1 _ (by rfl) (by rfl) (by simp (maxSteps := 4000000) [List.getElem?_cons_zero, List.getElem?_cons_succ, ]; exact rfl) ?_)
        refine PostD_end ?_
        simp (maxSteps := 4000000) [List.getElem?_cons_zero, List.getElem?_cons_succ, -Prod.exists, -Prod.forall, w1]
        exact ⟨i + 1, ⟨by omega, by simpa [-Prod.forall] using hin⟩, by omega, by simp⟩
    · have e1' : (y1 == m1 && y2 == m2) = false := by simpa using e1
      rw [hI, e1', Bool.false_and] at hin
      simp (maxSteps := 4000000) [List.getElem?_cons_zero, List.getElem?_cons_succ, -getElem?_pos, -Prod.exists, -Prod.forall, -Bool.and_eq_true, -beq_iff_eq, -regionA_true, hc]
      refine Post_bndD [] _ (by rfl) (by simp (maxSteps := 4000000) [List.getElem?_cons_zero, List.getElem?_cons_succ, ]; exact rfl) ?_
      repeat (first
        | refine PostD_go _ (by rfl) (by rfl) (by simp (maxSteps := 4000000) [List.getElem?_cons_zero, List.getElem?_cons_succ, -getElem?_pos, -Bool.and_eq_true, -Bool.and_eq_false_imp, -beq_iff_eq, hc, hy, lnFx, e1']; exact rfl) (by first | exact .inl rfl | exact .inr rfl) (by rfl) ?_
        | refine PostD_no1 _ (by rfl) (by rfl) (by simp (maxSteps := 4000000) [List.getElem?_cons_zero, List.getElem?_cons_succ, ]; exact rfl) ?_)
      refine PostD_end ?_
      simp (maxSteps := 4000000) [List.getElem?_cons_zero, List.getElem?_cons_succ, -Prod.exists, -Prod.forall, w1]
      exact ⟨i + 1, ⟨by omega, by simpa [-Prod.forall] using hin⟩, by omega, by simp⟩
  · rw [List.take_of_length_le (by omega)] at hn
    have hA : findAV (findP l (m1, m2) k) = .tup [.str [], .bool false] := by unfold findP findAV; rw [find_no hn]; rfl
    simp (maxSteps := 4000000) [List.getElem?_cons_zero, List.getElem?_cons_succ, hc, hA, Tryz.results17]
theorem rKeep_eq (l : List Ln) (hl : l.length ≤ 2 ^ 30) (K : List (List UInt8 × List UInt8)) (hK : K.length ≤ 2 ^ 30) (σ) : ev 20 [.sl .sh (l.map lnF), .sl .sh (K.map fun m => .agg [.str m.1, .str m.2])] σ = some (.sl (.ex 82 4) ((keepP l K).map lnF), σ) := by
  refine EV_post rfl Tryz.func20 rfl (by simp [Tryz.ntmps20]) (by kernel_rfl) (by kernel_rfl) ?_
  obtain ⟨KK, hKK⟩ : ∃ L, (K.map fun m => AV.agg [.str m.1, .str m.2]) = L := ⟨_, rfl⟩
  have gK : ∀ {k : Nat} {m : List UInt8 × List UInt8}, K[k]? = some m → KK[k]? = some (.agg [.str m.1, .str m.2]) := fun h => by rw [← hKK, List.getElem?_map, h]; rfl
  have nK : KK.length = K.length := by rw [← hKK, List.length_map]
  rw [hKK]
  simp (maxSteps := 4000000) [List.getElem?_cons_zero, List.getElem?_cons_succ, ]
  refine Post_loop (I := fun p : Nat × List Ln => ⟨[(0, .sl .sh (l.map lnF)), (1, .sl .sh KK), (5, .sl (.ex 82 4) (p.2.map lnF)), (6, .int .i64 p.1)], [], σ⟩) (Pr := fun p => keepI l K p.1 p.2) (μ := fun p => l.length - p.1) (a := (0, [])) (by simp) ⟨by simp, by simp [keepP]⟩ ?_
  rintro ⟨i, out⟩ ⟨hi, ho⟩
  simp only at hi ho ⊢
  have w1 : IntKind.i64.wrap ((i : Int) + 1) = (i : Int) + 1 := wrap64 (by omega)
  by_cases hc : i < l.length
  · obtain ⟨x, hx⟩ : ∃ x, l[i]? = some x := ⟨_, List.getElem?_eq_getElem hc⟩
    have hol : out.length ≤ l.length := by
      rw [ho]; unfold keepP
      exact Nat.le_trans (List.length_filter_le ..) (by simp; omega)
    have hk : keepP (l.take (i + 1)) K = keepP (l.take i) K ++ if K.any (x.1 == ·) then [x] else [] := by
      unfold keepP
      rw [List.take_add_one, hx, List.filter_append]
      congr 1
      simp only [Option.toList_some, List.filter_cons, List.filter_nil]
    have hall : allCells 4 (out.map lnF) := by simp
    have hm : (out.map lnF).length + 1 ≤ most := by rw [List.length_map]; unfold most; omega
    have gl : (l.map lnF)[i]? = some (lnF x) := by rw [List.getElem?_map, hx]; rfl
    have nl : (l.map lnF).length = l.length := List.length_map ..
    obtain ⟨LL, hLL⟩ : ∃ L, l.map lnF = L := ⟨_, rfl⟩
    rw [hLL] at gl nl ⊢
    obtain ⟨⟨x1, x2⟩, x3, x4⟩ := x
    rw [lnFx] at gl
    simp only at gl hk
    have hfin : (out ++ [((x1, x2), x3, x4)]).map lnF = out.map lnF ++ [.agg [.str x1, .str x2, .int .i64 x3, .str x4]] := by simp [lnF]
    obtain ⟨L, hL⟩ : ∃ L, out.map lnF = L := ⟨_, rfl⟩
    rw [hL] at hall hm hfin ⊢
    simp (maxSteps := 4000000) [List.getElem?_cons_zero, List.getElem?_cons_succ, -getElem?_pos, -Prod.exists, -Prod.forall, hc, nl]
    refine Post_loop (I := fun k : Nat => ⟨[(0, .sl .sh LL), (1, .sl .sh KK), (5, .sl (.ex 82 4) L), (6, .int .i64 i), (7, .int .i64 k)], [], σ⟩) (Pr := fun k => k ≤ K.length ∧ (K.take k).any ((x1, x2) == ·) = false) (μ := fun k => K.length - k) (a := 0) (by simp) ⟨by simp, by simp⟩ ?_
    rintro k ⟨hk1, hn⟩
    have w2 : IntKind.i64.wrap ((k : Int) + 1) = (k : Int) + 1 := wrap64 (by omega)
    by_cases hc2 : k < K.length
    · obtain ⟨m, hm1⟩ : ∃ m, K[k]? = some m := ⟨_, List.getElem?_eq_getElem hc2⟩
      have hin := any_take_succ hm1 hn
      have gm := gK hm1
      have hany : (((x1, x2) : List UInt8 × List UInt8) == m) = true → K.any ((x1, x2) == ·) = true := fun h => List.any_eq_true.2 ⟨m, List.mem_of_getElem? hm1, h⟩
      obtain ⟨m1, m2⟩ := m
      have hmm : (((x1, x2) : List UInt8 × List UInt8) == (m1, m2)) = (m1 == x1 && m2 == x2) := by
        rw [show (((x1, x2) : List UInt8 × List UInt8) == (m1, m2)) = (x1 == m1 && x2 == m2) from rfl, BEq.comm (a := x1), BEq.comm (a := x2)]
      simp only at gm
      rw [hmm] at hin hany
      by_cases e1 : (m1 == x1 && m2 == x2) = true
      · rw [hany e1, if_pos rfl] at hk
        have hnx : keepI l K (i + 1) (out ++ [((x1, x2), x3, x4)]) := ⟨by omega, by rw [hk, ho]⟩
        simp (maxSteps := 4000000) [List.getElem?_cons_zero, List.getElem?_cons_succ, -getElem?_pos, -Prod.exists, -Prod.forall, -Bool.and_eq_true, -beq_iff_eq, -regionA_true, hc2, nK, gm]
        refine Post_bndD [] _ (by rfl) (by simp (maxSteps := 4000000) [List.getElem?_cons_zero, List.getElem?_cons_succ, ]; exact rfl) ?_
        repeat (first
          | refine PostD_go _ (by rfl) (by rfl) (by simp (maxSteps := 4000000) [List.getElem?_cons_zero, List.getElem?_cons_succ, -getElem?_pos, -Bool.and_eq_true, -beq_iff_eq, hc2, nK, hc, nl, gl, gm, e1]; exact rfl) (by first | exact .inl rfl | exact .inr rfl) (by rfl) ?_
          | refine PostD_no1 _ (by rfl) (by rfl) (by simp (maxSteps := 4000000) [List.getElem?_cons_zero, List.getElem?_cons_succ, ]; exact rfl) ?_)
        refine PostD_end ?_
        simp (maxSteps := 4000000) [List.getElem?_cons_zero, List.getElem?_cons_succ, -getElem?_pos, -Prod.exists, -Prod.forall, hc, nl, gl, hall, hm, w1]
        exact ⟨(i + 1, out ++ [((x1, x2), x3, x4)]), hnx, by simp; omega, by simp only [hfin]; simp [hLL]⟩
      · have e1' : (m1 == x1 && m2 == x2) = false := by simpa using e1
        rw [e1'] at hin
        simp (maxSteps := 4000000) [List.getElem?_cons_zero, List.getElem?_cons_succ, -getElem?_pos, -Prod.exists, -Prod.forall, -Bool.and_eq_true, -beq_iff_eq, -regionA_true, hc2, nK, gm]
        refine Post_bndD [] _ (by rfl) (by simp (maxSteps := 4000000) [List.getElem?_cons_zero, List.getElem?_cons_succ, ]; exact rfl) ?_
        repeat (first
          | refine PostD_go _ (by rfl) (by rfl) (by simp (maxSteps := 4000000) [List.getElem?_cons_zero, List.getElem?_cons_succ, -getElem?_pos, -Bool.and_eq_true, -Bool.and_eq_false_imp, -beq_iff_eq, hc2, nK, hc, nl, gl, gm, e1']; exact rfl) (by first | exact .inl rfl | exact .inr rfl) (by rfl) ?_
          | refine PostD_no1 _ (by rfl) (by rfl) (by simp (maxSteps := 4000000) [List.getElem?_cons_zero, List.getElem?_cons_succ, ]; exact rfl) ?_)
        refine PostD_end ?_
        simp (maxSteps := 4000000) [List.getElem?_cons_zero, List.getElem?_cons_succ, -Prod.exists, -Prod.forall, w2]
        exact ⟨k + 1, ⟨by omega, by simpa [-Prod.forall] using hin⟩, by omega, by simp⟩
    · rw [List.take_of_length_le (by omega)] at hn
      rw [hn, if_neg (by simp), List.append_nil] at hk
      have hnx : keepI l K (i + 1) out := ⟨by omega, by rw [hk, ho]⟩
      simp (maxSteps := 4000000) [List.getElem?_cons_zero, List.getElem?_cons_succ, -getElem?_pos, -Prod.exists, -Prod.forall, hc2, nK, w1]
      exact ⟨(i + 1, out), hnx, by simp; omega, by simp [hL, hLL]⟩
  · have ho2 : keepP l K = out := by rw [ho, List.take_of_length_le (by omega)]
    rw [ho2]
    simp (maxSteps := 4000000) [List.getElem?_cons_zero, List.getElem?_cons_succ, hc, Tryz.results20]
def rmI (A B : List Ln) (R : Option (List Ln)) (i : Nat) (out : List Ln) : Prop := i ≤ (A ++ B).length ∧ mrgF lnK out ((A ++ B).drop i) = R ∧ out.length ≤ i ∧ (∀ x ∈ out, x ∈ A ++ B) ∧ Dk lnK out
def inI (out : List Ln) (x : Ln) (k : Nat) (t : Bool) : Prop := k ≤ out.length ∧ t = (out.take k).any (isLn x.1 x.2.1) ∧ ∀ y ∈ out.take k, isLn x.1 x.2.1 y = true → y.2.2 = x.2.2
theorem findP_of {out : List Ln} (h : Dk lnK out) {x y : Ln} (hy : y ∈ out) (e : isLn x.1 x.2.1 y = true) : findP out x.1 x.2.1 = some y.2.2 := by
  rw [isLn_key] at e
  rw [findP_key, find_dk h hy (by simpa using e)]; rfl
theorem rMerge_eq (a b : List Ln) (ha : a.length ≤ 2 ^ 28) (hb : b.length ≤ 2 ^ 28) (hQ : ∀ x ∈ a ++ b, lnM x) (σ) : ev 14 [.sl .sh (a.map lnF), .sl .sh (b.map lnF)] σ = some (.tup [.sl .sh ((mrgP a b).1.map lnF), .int .i64 (mrgP a b).2], σ) := by
  refine EV_post rfl Tryz.func14 rfl (by simp [Tryz.ntmps14]) (by kernel_rfl) (by kernel_rfl) ?_
  obtain ⟨R, hR⟩ : ∃ R, mrgF lnK [] (a ++ b) = R := ⟨_, rfl⟩
  have c1 : allCells 4 (a.map lnF) := by simp
  have c2 : allCells 4 (b.map lnF) := by simp
  have n1 : (a.map lnF).length ≤ most := by rw [List.length_map]; unfold most; omega
  have n2 : (a.map lnF).length + (b.map lnF).length ≤ most := by rw [List.length_map, List.length_map]; unfold most; omega
  have habl : (a ++ b).length ≤ 2 ^ 29 := by rw [List.length_append]; omega
  obtain ⟨AB, hAB⟩ : ∃ L, a.map lnF ++ b.map lnF = L := ⟨_, rfl⟩
  have gAB : ∀ {i : Nat} {x : Ln}, (a ++ b)[i]? = some x → AB[i]? = some (lnF x) := fun h => by rw [← hAB, ← List.map_append, List.getElem?_map, h]; rfl
  have nAB : AB.length = (a ++ b).length := by rw [← hAB, ← List.map_append, List.length_map]
  obtain ⟨LA, hLA⟩ : ∃ L, a.map lnF = L := ⟨_, rfl⟩
  obtain ⟨LB, hLB⟩ : ∃ L, b.map lnF = L := ⟨_, rfl⟩
  rw [hLA] at c1 n1 n2 hAB ⊢
  rw [hLB] at c2 n2 hAB ⊢
  obtain ⟨N, hN⟩ : ∃ N, (a ++ b).length = N := ⟨_, rfl⟩
  rw [hN] at nAB habl
  simp (maxSteps := 4000000) [List.getElem?_cons_zero, List.getElem?_cons_succ, c1, c2, n1, n2, hAB]
  refine Post_loop (I := fun p : Nat × List Ln => ⟨[(6, .sl (.ex 82 4) AB), (7, .sl (.ex 82 4) (p.2.map lnF)), (8, .int .i64 p.1)], [], σ⟩)
    (Pr := fun p => rmI a b R p.1 p.2) (μ := fun p => N - p.1) (a := (0, [])) (by simp) ⟨by simp, by simpa using hR, by simp, by simp, .nil⟩ ?_
  rintro ⟨i, out⟩ ⟨hi, hI, hol, hom, hD⟩
  simp only [hN] at hi hI hol hom ⊢
  have w1 : IntKind.i64.wrap ((i : Int) + 1) = (i : Int) + 1 := wrap64 (by omega)
  by_cases hc : i < N
  · obtain ⟨x, hx⟩ : ∃ x, (a ++ b)[i]? = some x := ⟨_, List.getElem?_eq_getElem (by omega)⟩
    have gx := gAB hx
    have hdr : (a ++ b).drop i = x :: (a ++ b).drop (i + 1) := by rw [List.drop_eq_getElem_cons (by omega), (List.getElem?_eq_some_iff.1 hx).2]
    rw [hdr, mrgL_step] at hI
    have hxm : x ∈ a ++ b := List.mem_of_getElem? hx
    have hall : allCells 4 (out.map lnF) := by simp
    have hm : (out.map lnF).length + 1 ≤ most := by rw [List.length_map]; unfold most; omega
    have gO : ∀ {k : Nat} {y : Ln}, out[k]? = some y → (out.map lnF)[k]? = some (lnF y) := fun h => by rw [List.getElem?_map, h]; rfl
    have nO : (out.map lnF).length = out.length := List.length_map ..
    have hp28 : R = none → mrgP a b = ([], 28) := fun h => by unfold mrgP; rw [hR, h]
    have hfin : (out ++ [x]).map lnF = out.map lnF ++ [lnF x] := by simp
    obtain ⟨L, hL⟩ : ∃ L, out.map lnF = L := ⟨_, rfl⟩
    rw [hL] at hall hm gO nO hfin ⊢
    simp (maxSteps := 4000000) [List.getElem?_cons_zero, List.getElem?_cons_succ, -getElem?_pos, -Prod.exists, -Prod.forall, hc, nAB]
    refine Post_loop (I := fun q : Nat × Bool => ⟨[(6, .sl (.ex 82 4) AB), (7, .sl (.ex 82 4) L), (8, .int .i64 i), (9, .bool q.2), (10, .int .i64 q.1)], [], σ⟩)
      (Pr := fun q => inI out x q.1 q.2) (μ := fun q => out.length - q.1) (a := (0, false)) (by simp) ⟨by simp, by simp, by simp⟩ ?_
    rintro ⟨k, t⟩ ⟨hk, ht, hs⟩
    simp only at hk ht hs ⊢
    have w2 : IntKind.i64.wrap ((k : Int) + 1) = (k : Int) + 1 := wrap64 (by omega)
    by_cases hc2 : k < out.length
    · obtain ⟨y, hy⟩ : ∃ y, out[k]? = some y := ⟨_, List.getElem?_eq_getElem hc2⟩
      have gy := gO hy
      have htk : (out.take (k + 1)).any (isLn x.1 x.2.1) = (t || isLn x.1 x.2.1 y) := by rw [List.take_add_one, hy, List.any_append, ht]; simp
      have hsk : (isLn x.1 x.2.1 y = true → y.2.2 = x.2.2) → ∀ z ∈ out.take (k + 1), isLn x.1 x.2.1 z = true → z.2.2 = x.2.2 := fun h z hz => by
        rw [List.take_add_one, hy] at hz
        rcases List.mem_append.1 hz with hz | hz
        · exact hs z hz
        · simp at hz; subst hz; exact h
      have hbad : isLn x.1 x.2.1 y = true → ¬ y.2.2 = x.2.2 → R = none := fun h1 h2 => by
        rw [findP_of hD (List.mem_of_getElem? hy) h1] at hI
        simp only at hI
        rw [if_neg h2] at hI; exact hI.symm
      obtain ⟨⟨x1, x2⟩, x3, x4⟩ := x
      obtain ⟨⟨y1, y2⟩, y3, y4⟩ := y
      rw [lnFx] at gx gy
      simp only at gx gy htk hsk hbad
      have hI2 : isLn (x1, x2) x3 ((y1, y2), y3, y4) = ((y1 == x1 && y2 == x2) && decide (y3 = x3)) := rfl
      rw [hI2] at htk hsk hbad
      by_cases e1 : (y1 == x1 && y2 == x2) = true
      · by_cases e3 : y3 = x3
        · rw [e1, decide_eq_true e3] at htk hsk hbad
          by_cases e4 : y4 = x4
          · have e4' : (y4 == x4) = true := by simpa using e4
            have hnx : inI out ((x1, x2), x3, x4) (k + 1) true := ⟨by omega, by rw [htk]; simp, hsk fun _ => e4⟩
            simp (maxSteps := 4000000) [List.getElem?_cons_zero, List.getElem?_cons_succ, -getElem?_pos, -Prod.exists, -Prod.forall, -Bool.and_eq_true, -beq_iff_eq, -regionA_true, hc2, nO, gy, hc, nAB, gx]
            refine Post_bndD [] _ (by rfl) (by simp (maxSteps := 4000000) [List.getElem?_cons_zero, List.getElem?_cons_succ, ]; exact rfl) ?_
            repeat (first
              | refine PostD_go _ (by rfl) (by rfl) (by simp (maxSteps := 4000000) [List.getElem?_cons_zero, List.getElem?_cons_succ, -getElem?_pos, -Bool.and_eq_true, -beq_iff_eq, hc2, nO, gy, hc, nAB, gx, e1, eq_true e3]; exact rfl) (by first | exact .inl rfl | exact .inr rfl) (by rfl) ?_
              | refine PostD_no1 _ (by rfl) (by rfl) (by simp (maxSteps := 4000000) [List.getElem?_cons_zero, List.getElem?_cons_succ, ]; exact rfl) ?_)
            refine PostD_end ?_
            simp (maxSteps := 4000000) [List.getElem?_cons_zero, List.getElem?_cons_succ, -getElem?_pos, -Prod.exists, -Prod.forall, -Bool.and_eq_true, -beq_iff_eq, -regionA_true, hc2, nO, gy, hc, nAB, gx]
            refine Post_bndD [] _ (by rfl) (by simp (maxSteps := 4000000) [List.getElem?_cons_zero, List.getElem?_cons_succ, ]; exact rfl) ?_
            repeat (first
              | refine PostD_go _ (by rfl) (by rfl) (by simp (maxSteps := 4000000) [List.getElem?_cons_zero, List.getElem?_cons_succ, -getElem?_pos, -Bool.and_eq_true, -beq_iff_eq, hc2, nO, gy, hc, nAB, gx, e4']; exact rfl) (by first | exact .inl rfl | exact .inr rfl) (by rfl) ?_
              | refine PostD_no1 _ (by rfl) (by rfl) (by simp (maxSteps := 4000000) [List.getElem?_cons_zero, List.getElem?_cons_succ, ]; exact rfl) ?_)
            refine PostD_end ?_
            simp (maxSteps := 4000000) [List.getElem?_cons_zero, List.getElem?_cons_succ, -Prod.exists, -Prod.forall, w2]
            exact ⟨(k + 1, true), hnx, by simp; omega, by simp⟩
          · have e4' : (y4 == x4) = false := by simpa using e4
            have hp := hp28 (hbad rfl e4)
            simp (maxSteps := 4000000) [List.getElem?_cons_zero, List.getElem?_cons_succ, -getElem?_pos, -Prod.exists, -Prod.forall, -Bool.and_eq_true, -beq_iff_eq, -regionA_true, hc2, nO, gy, hc, nAB, gx]
            refine Post_bndD [] _ (by rfl) (by simp (maxSteps := 4000000) [List.getElem?_cons_zero, List.getElem?_cons_succ, ]; exact rfl) ?_
            repeat (first
              | refine PostD_go _ (by rfl) (by rfl) (by simp (maxSteps := 4000000) [List.getElem?_cons_zero, List.getElem?_cons_succ, -getElem?_pos, -Bool.and_eq_true, -beq_iff_eq, hc2, nO, gy, hc, nAB, gx, e1, eq_true e3]; exact rfl) (by first | exact .inl rfl | exact .inr rfl) (by rfl) ?_
              | refine PostD_no1 _ (by rfl) (by rfl) (by simp (maxSteps := 4000000) [List.getElem?_cons_zero, List.getElem?_cons_succ, ]; exact rfl) ?_)
            refine PostD_end ?_
            simp (maxSteps := 4000000) [List.getElem?_cons_zero, List.getElem?_cons_succ, -getElem?_pos, -Prod.exists, -Prod.forall, -Bool.and_eq_true, -beq_iff_eq, -regionA_true, hc2, nO, gy, hc, nAB, gx]
            refine Post_bndD [] _ (by rfl) (by simp (maxSteps := 4000000) [List.getElem?_cons_zero, List.getElem?_cons_succ, ]; exact rfl) ?_
            repeat (first
              | refine PostD_go _ (by rfl) (by rfl) (by simp (maxSteps := 4000000) [List.getElem?_cons_zero, List.getElem?_cons_succ, -getElem?_pos, -Bool.and_eq_true, -beq_iff_eq, -beq_eq_false_iff_ne, hc2, nO, gy, hc, nAB, gx, e4']; exact rfl) (by first | exact .inl rfl | exact .inr rfl) (by rfl) ?_
              | refine PostD_no1 _ (by rfl) (by rfl) (by simp (maxSteps := 4000000) [List.getElem?_cons_zero, List.getElem?_cons_succ, ]; exact rfl) ?_)
            refine PostD_end ?_
            simp (maxSteps := 4000000) [List.getElem?_cons_zero, List.getElem?_cons_succ, hp, Tryz.results14]
        · rw [e1, decide_eq_false e3] at htk hsk hbad
          have hnx : inI out ((x1, x2), x3, x4) (k + 1) t := ⟨by omega, by rw [htk]; simp, hsk fun h => by cases h⟩
          simp (maxSteps := 4000000) [List.getElem?_cons_zero, List.getElem?_cons_succ, -getElem?_pos, -Prod.exists, -Prod.forall, -Bool.and_eq_true, -beq_iff_eq, -regionA_true, hc2, nO, gy, hc, nAB, gx]
          refine Post_bndD [] _ (by rfl) (by simp (maxSteps := 4000000) [List.getElem?_cons_zero, List.getElem?_cons_succ, ]; exact rfl) ?_
          repeat (first
            | refine PostD_go _ (by rfl) (by rfl) (by simp (maxSteps := 4000000) [List.getElem?_cons_zero, List.getElem?_cons_succ, -getElem?_pos, -Bool.and_eq_true, -beq_iff_eq, hc2, nO, gy, hc, nAB, gx, e1, e3]; exact rfl) (by first | exact .inl rfl | exact .inr rfl) (by rfl) ?_
            | refine PostD_no1 _ (by rfl) (by rfl) (by simp (maxSteps := 4000000) [List.getElem?_cons_zero, List.getElem?_cons_succ, ]; exact rfl) ?_)
          refine PostD_end ?_
          simp (maxSteps := 4000000) [List.getElem?_cons_zero, List.getElem?_cons_succ, -Prod.exists, -Prod.forall, w2]
          exact ⟨(k + 1, t), hnx, by simp; omega, by simp⟩
      · have e1' : (y1 == x1 && y2 == x2) = false := by simpa using e1
        rw [e1', Bool.false_and] at htk hsk hbad
        have hnx : inI out ((x1, x2), x3, x4) (k + 1) t := ⟨by omega, by rw [htk]; simp, hsk fun h => by cases h⟩
        simp (maxSteps := 4000000) [List.getElem?_cons_zero, List.getElem?_cons_succ, -getElem?_pos, -Prod.exists, -Prod.forall, -Bool.and_eq_true, -beq_iff_eq, -regionA_true, hc2, nO, gy, hc, nAB, gx]
        refine Post_bndD [] _ (by rfl) (by simp (maxSteps := 4000000) [List.getElem?_cons_zero, List.getElem?_cons_succ, ]; exact rfl) ?_
        repeat (first
          | refine PostD_go _ (by rfl) (by rfl) (by simp (maxSteps := 4000000) [List.getElem?_cons_zero, List.getElem?_cons_succ, -getElem?_pos, -Bool.and_eq_true, -Bool.and_eq_false_imp, -beq_iff_eq, hc2, nO, gy, hc, nAB, gx, e1']; exact rfl) (by first | exact .inl rfl | exact .inr rfl) (by rfl) ?_
          | refine PostD_no1 _ (by rfl) (by rfl) (by simp (maxSteps := 4000000) [List.getElem?_cons_zero, List.getElem?_cons_succ, ]; exact rfl) ?_)
        refine PostD_end ?_
        simp (maxSteps := 4000000) [List.getElem?_cons_zero, List.getElem?_cons_succ, -Prod.exists, -Prod.forall, w2]
        exact ⟨(k + 1, t), hnx, by simp; omega, by simp⟩
    · rw [List.take_of_length_le (by omega)] at ht hs
      cases t with
      | false =>
        have hf : findP out x.1 x.2.1 = none := by unfold findP; rw [find_no ht.symm]; rfl
        rw [hf] at hI
        have hout : ∀ z ∈ out ++ [x], z ∈ a ++ b := fun z hz => by
          rcases List.mem_append.1 hz with h | h
          · exact hom z h
          · rw [List.mem_singleton] at h; rw [h]; exact hxm
        have hDs : Dk lnK (out ++ [x]) := hD.snoc (by
          rw [findP_key] at hf
          cases hg : out.find? (fun y => decide (lnK y = lnK x)) with
          | none => rfl
          | some y => rw [hg] at hf; cases hf)
        have hnx : rmI a b R (i + 1) (out ++ [x]) := ⟨by rw [hN]; omega, hI, by simp; omega, hout, hDs⟩
        obtain ⟨⟨x1, x2⟩, x3, x4⟩ := x
        rw [lnFx] at gx hfin
        simp only at gx hfin
        have hm2 : out.length + 1 ≤ most := by rw [← nO]; exact hm
        simp (maxSteps := 4000000) [List.getElem?_cons_zero, List.getElem?_cons_succ, -getElem?_pos, -Prod.exists, -Prod.forall, hc2, nO, hc, nAB, gx, hall, hm2, w1]
        exact ⟨(i + 1, out ++ [((x1, x2), x3, x4)]), hnx, by simp; omega, by simp only [hfin]; simp⟩
      | true =>
        obtain ⟨y, hy, hq⟩ := List.any_eq_true.1 ht.symm
        rw [findP_of hD hy hq, hs y hy hq] at hI
        simp only [↓reduceIte] at hI
        have hnx : rmI a b R (i + 1) out := ⟨by rw [hN]; omega, hI, by omega, hom, hD⟩
        simp (maxSteps := 4000000) [List.getElem?_cons_zero, List.getElem?_cons_succ, -getElem?_pos, -Prod.exists, -Prod.forall, hc2, nO, hc, nAB, w1]
        exact ⟨(i + 1, out), hnx, by simp; omega, by simp [hL]⟩
  · rw [List.drop_of_length_le (by omega), mrgF] at hI
    have hp : mrgP a b = (isrt lnC out, 0) := by unfold mrgP; rw [hR, ← hI]
    have hO := rordered_eq out (by omega) (fun x hx => hQ x (hom x hx))
    simp (maxSteps := 4000000) [List.getElem?_cons_zero, List.getElem?_cons_succ, hc, nAB, hO, hp, Tryz.results14]
end Go.Proofs.Tryz.Ai
end
section
/- sumfile: merges and cuts that are handed on to be written into. -/
namespace Go.Proofs.Tryz.Ai
open Go Go.AI Go.Proofs Go.B64
set_option maxHeartbeats 8000000
set_option maxRecDepth 4000
set_option linter.unusedVariables false

theorem orderedM_nil (σ : List (List AV)) : ev (100000 + 45) [.sl .sh []] σ = some (.sl (.ex 42 4) [], σ) := by
  have hS := sortStable_nilL 83
  refine EV_post rfl Tryz.func45 rfl (by simp [Tryz.ntmps45]) (by kernel_rfl) (by kernel_rfl) ?_
  simp (maxSteps := 4000000) [List.getElem?_cons_zero, List.getElem?_cons_succ, hS, Tryz.results45]
theorem orderedM_eq (l : List Ln) (hl : l.length ≤ 2 ^ 30) (hQ : ∀ x ∈ l, lnM x) (σ : List (List AV)) (hne : l ≠ []) :
    ev (100000 + 45) [.sl .sh (l.map lnF)] σ = some (.ms 42 4 σ.length 0 l.length, σ ++ [rowE esL (isrt lnC l)]) := by
  cases l with
  | nil => exact absurd rfl hne
  | cons x r =>
    have hS := sortStable_eqL cmp_okL σ.length (σ ++ [[]]) (x :: r) (r.length + 1) hQ (by simp) (by simpa using hl) (by simp)
    rw [row_esL] at hS
    obtain ⟨L, hL⟩ : ∃ L, rowE esL (isrt lnC (x :: r)) = L := ⟨_, rfl⟩
    rw [hL] at hS ⊢
    have hall : allCells 4 (r.map lnF) := by simp
    simp [lnF] at hS hl
    refine EV_post rfl Tryz.func45 rfl (by simp [Tryz.ntmps45]) (by kernel_rfl) (by kernel_rfl) ?_
    simp (maxSteps := 4000000) [List.getElem?_cons_zero, List.getElem?_cons_succ, hS, hall, lnF, Tryz.results45]
    repeat (rw [need_of]; rotate_left; (· (try unfold most); omega); simp (maxSteps := 4000000) [List.getElem?_cons_zero, List.getElem?_cons_succ, hS, hall, lnF, Tryz.results45])
/-- what a merge hands on -/
def mrgV (σ : List (List AV)) (l : List Ln) : AV × List (List AV) := if l = [] then (.sl .sh [], σ) else (.ms 42 4 σ.length 0 l.length, σ ++ [rowE esL l])
theorem MergeM_eq (a b : List Ln) (ha : a.length ≤ 2 ^ 28) (hb : b.length ≤ 2 ^ 28) (hQ : ∀ x ∈ a ++ b, lnM x) (σ) : ev (100000 + 13) [.sl .sh (a.map lnF), .sl .sh (b.map lnF)] σ = some (.tup [(mrgV σ (mrgP a b).1).1, .int .i64 (mrgP a b).2], (mrgV σ (mrgP a b).1).2) := by
  refine EV_post rfl Tryz.func13 rfl (by simp [Tryz.ntmps13]) (by kernel_rfl) (by kernel_rfl) ?_
  simp (maxSteps := 4000000) [List.getElem?_cons_zero, List.getElem?_cons_succ, ]
  obtain ⟨R, hR⟩ : ∃ R, mrgF lnK [] (a ++ b) = R := ⟨_, rfl⟩
  obtain ⟨T80, hT⟩ : ∃ T, T = (80 : Nat) := ⟨_, rfl⟩
  refine Post_loop (I := fun p : Nat × List Ln => ⟨[(6, .sl (.ex 42 4) (p.2.map lnF)), (15, .sl (.ex 22 1) [.sl .sh (a.map lnF), .sl .sh (b.map lnF)]), (16, .int .i64 2), (17, .int .i64 p.1)], [], σ⟩)
    (Pr := fun p => p.1 ≤ 2 ∧ mrgI a b R p.2 (if p.1 = 0 then a ++ b else if p.1 = 1 then b else [])) (μ := fun p => 2 - p.1) (a := (0, [])) (by simp) ⟨by simp, by simpa using hR, by simp, by simp⟩ ?_
  rintro ⟨i, out⟩ ⟨hi, hI⟩
  simp only at hi hI ⊢
  have w1 : IntKind.i64.wrap ((i : Int) + 1) = (i : Int) + 1 := wrap64 (by omega)
  by_cases hc : i < 2
  · obtain ⟨cur, tl, hcur, hrest, hnext, hcl⟩ : ∃ cur tl : List Ln, ([.sl .sh (a.map lnF), .sl .sh (b.map lnF)] : List AV)[i]? = some (.sl .sh (cur.map lnF)) ∧ (if i = 0 then a ++ b else if i = 1 then b else []) = cur ++ tl ∧ (if i + 1 = 0 then a ++ b else if i + 1 = 1 then b else []) = tl ∧ cur.length ≤ 2 ^ 28 := by
      rcases (by omega : i = 0 ∨ i = 1) with rfl | rfl
      · exact ⟨a, b, rfl, rfl, rfl, ha⟩
      · exact ⟨b, [], rfl, by simp, rfl, hb⟩
    rw [hrest] at hI
    obtain ⟨AB, hAB⟩ : ∃ L, ([.sl .sh (a.map lnF), .sl .sh (b.map lnF)] : List AV) = L := ⟨_, rfl⟩
    rw [hAB] at hcur ⊢
    simp (maxSteps := 4000000) [List.getElem?_cons_zero, List.getElem?_cons_succ, -getElem?_pos, -Prod.exists, -Prod.forall, hc, hcur]
    refine Post_loop (I := fun q : Nat × List Ln => ⟨[(6, .sl (.ex 42 4) (q.2.map lnF)), (15, .sl (.ex 22 1) AB), (16, .int .i64 2), (17, .int .i64 i), (21, .sl .sh (cur.map lnF)), (22, .int .i64 cur.length), (23, .int .i64 q.1)], [], σ⟩)
      (Pr := fun q => q.1 ≤ cur.length ∧ mrgI a b R q.2 (cur.drop q.1 ++ tl)) (μ := fun q => cur.length - q.1) (a := (0, out)) (by simp) ⟨by simp, by simpa using hI⟩ ?_
    rintro ⟨j, out⟩ ⟨hj, hI⟩
    simp only at hj hI ⊢
    have w2 : IntKind.i64.wrap ((j : Int) + 1) = (j : Int) + 1 := wrap64 (by omega)
    by_cases hc2 : j < cur.length
    · obtain ⟨x, hx⟩ : ∃ x, cur[j]? = some x := ⟨_, List.getElem?_eq_getElem hc2⟩
      have hdr : cur.drop j ++ tl = x :: (cur.drop (j + 1) ++ tl) := by rw [List.drop_eq_getElem_cons hc2, List.cons_append, (List.getElem?_eq_some_iff.1 hx).2]
      rw [hdr] at hI
      obtain ⟨hI1, hI2, hI3⟩ := hI
      rw [mrgL_step] at hI1
      have hF := Find_eq out (by omega) x.1 x.2.1
      have hall : allCells 4 (out.map lnF) := by simp
      have hm : (out.map lnF).length + 1 ≤ most := by rw [List.length_map]; unfold most; omega
      have hxm : x ∈ a ++ b := by
        have hm1 : x ∈ cur ++ tl := List.mem_append_left _ (List.mem_of_getElem? hx)
        rw [← hrest] at hm1
        split at hm1
        · exact hm1
        · split at hm1
          · exact List.mem_append_right _ hm1
          · cases hm1
      cases hf : findP out x.1 x.2.1 with
      | none =>
        rw [hf] at hI1
        have hA : findAV (none : Option (List UInt8)) = .tup [.str [], .bool false] := rfl
        rw [hf, hA] at hF
        have hfin : (out ++ [x]).map lnF = out.map lnF ++ [lnF x] := by simp
        have hout : ∀ z ∈ out ++ [x], z ∈ a ++ b := fun z hz => by
          rcases List.mem_append.1 hz with h | h
          · exact hI3 z h
          · rw [List.mem_singleton] at h; rw [h]; exact hxm
        obtain ⟨⟨x1, x2⟩, x3, x4⟩ := x
        simp only at hF
        obtain ⟨L, hL⟩ : ∃ L, out.map lnF = L := ⟨_, rfl⟩
        rw [hL] at hF hall hm hfin ⊢
        simp (maxSteps := 4000000) [List.getElem?_cons_zero, List.getElem?_cons_succ, -getElem?_pos, -Prod.exists, -Prod.forall, hc2, hx, lnFx, hF, hall, hm, w2]
        exact ⟨(j + 1, out ++ [((x1, x2), x3, x4)]), ⟨by simp; omega, hI1, by simp at hI2 ⊢; omega, hout⟩, by simp; omega, by simp [hfin, lnF]⟩
      | some s =>
        rw [hf] at hI1
        have hA : findAV (some s) = .tup [.str s, .bool true] := rfl
        rw [hf, hA] at hF
        by_cases hs : s = x.2.2
        · simp only at hI1
          rw [if_pos hs] at hI1
          obtain ⟨⟨x1, x2⟩, x3, x4⟩ := x
          simp only at hF hs
          have hs' : (s == x4) = true := by simpa using hs
          obtain ⟨L, hL⟩ : ∃ L, out.map lnF = L := ⟨_, rfl⟩
          rw [hL] at hF hall hm ⊢
          simp (maxSteps := 4000000) [List.getElem?_cons_zero, List.getElem?_cons_succ, -getElem?_pos, -Prod.exists, -Prod.forall, -beq_iff_eq, hc2, hx, lnFx, hF, hs', w2]
          exact ⟨(j + 1, out), ⟨by simp; omega, hI1, by simp at hI2 ⊢; omega, hI3⟩, by simp; omega, by simp [hL]⟩
        · simp only at hI1
          rw [if_neg hs] at hI1
          have hp : mrgP a b = ([], 28) := by unfold mrgP; rw [hR, ← hI1]
          obtain ⟨⟨x1, x2⟩, x3, x4⟩ := x
          simp only at hF hs
          have hs' : (s == x4) = false := by simpa using hs
          obtain ⟨L, hL⟩ : ∃ L, out.map lnF = L := ⟨_, rfl⟩
          rw [hL] at hF hall hm ⊢
          simp (maxSteps := 4000000) [List.getElem?_cons_zero, List.getElem?_cons_succ, -getElem?_pos, -beq_eq_false_iff_ne, hc2, hx, lnFx, hF, hs', hp, mrgV, Tryz.results13]
    · rw [List.drop_of_length_le (by omega), List.nil_append] at hI
      simp (maxSteps := 4000000) [List.getElem?_cons_zero, List.getElem?_cons_succ, -getElem?_pos, -Prod.exists, -Prod.forall, hc2, w1]
      exact ⟨(i + 1, out), ⟨by simp; omega, by simp only; rw [hnext]; exact hI⟩, by simp; omega, by simp [hAB]⟩
  · have hi2 : i = 2 := by omega
    subst hi2
    obtain ⟨hI1, hI2, hI3⟩ := hI
    simp at hI1 hI2
    rw [mrgF] at hI1
    have hp : mrgP a b = (isrt lnC out, 0) := by unfold mrgP; rw [hR, ← hI1]
    have hQo : ∀ x ∈ out, lnM x := fun x hx => hQ x (hI3 x hx)
    have hO := orderedM_eq out (by omega) hQo
    have hO0 := orderedM_nil
    by_cases ho : out = []
    · subst ho
      have hv : mrgV σ (isrt lnC []) = (.sl .sh [], σ) := rfl
      simp (maxSteps := 4000000) [List.getElem?_cons_zero, List.getElem?_cons_succ, hO0, hp, hv, Tryz.results13]
    · have hne : isrt lnC out ≠ [] := fun e => ho (List.length_eq_zero_iff.1 (by rw [← isrt_len (c := lnC), e]; rfl))
      have hv : mrgV σ (isrt lnC out) = (.ms 42 4 σ.length 0 out.length, σ ++ [rowE esL (isrt lnC out)]) := by unfold mrgV; rw [if_neg hne, isrt_len]
      have hO := fun σ => hO σ ho
      simp (maxSteps := 4000000) [List.getElem?_cons_zero, List.getElem?_cons_succ, hO, hp, hv, Tryz.results13]
/-- lines in a box -/
structure BoxL (σ S : List (List AV)) (b : Nat) (l : List Ln) : Prop where
  get : S[b]? = some (rowE esL l)
  take : S.take σ.length = σ
  le : σ.length ≤ b
theorem BoxL.lt {σ S : List (List AV)} {b : Nat} {l : List Ln} (h : BoxL σ S b l) : b < S.length := (List.getElem?_eq_some_iff.1 h.get).1
theorem KeepM_eq (l : List Ln) (hl : l.length ≤ 2 ^ 30) (K : List (List UInt8 × List UInt8)) (hK : K.length ≤ 2 ^ 30) (σ) : ∃ v S, ev (100000 + 18) [.sl .sh (l.map lnF), .sl .sh (K.map fun m => .agg [.str m.1, .str m.2])] σ = some (v, S) ∧
    ((v = .sl (.ex 42 4) [] ∧ S = σ ∧ keepP l K = []) ∨ ∃ b, v = .ms 42 4 b 0 (keepP l K).length ∧ BoxL σ S b (keepP l K) ∧ 0 < (keepP l K).length) := by
  suffices hx : ∃ r : AV × List (List AV), ev (100000 + 18) [.sl .sh (l.map lnF), .sl .sh (K.map fun m => .agg [.str m.1, .str m.2])] σ = some r ∧ ∃ v S, r = (v, S) ∧
    ((v = .sl (.ex 42 4) [] ∧ S = σ ∧ keepP l K = []) ∨ ∃ b, v = .ms 42 4 b 0 (keepP l K).length ∧ BoxL σ S b (keepP l K) ∧ 0 < (keepP l K).length) by
    obtain ⟨r, h1, v, S, rfl, h2⟩ := hx
    exact ⟨v, S, h1, h2⟩
  have hC := fun m => ContainsM_eq K hK m
  refine EV_postE rfl Tryz.func18 rfl (by simp [Tryz.ntmps18]) (by kernel_rfl) (by kernel_rfl) ?_
  obtain ⟨KK, hKK⟩ : ∃ L, (K.map fun m => AV.agg [.str m.1, .str m.2]) = L := ⟨_, rfl⟩
  rw [hKK] at hC ⊢
  simp (maxSteps := 4000000) [List.getElem?_cons_zero, List.getElem?_cons_succ, ]
  refine Post_loop (I := fun p : AV × List (List AV) × Nat => ⟨[(1, .sl .sh KK), (5, p.1), (8, .sl .sh (l.map lnF)), (9, .int .i64 l.length), (10, .int .i64 p.2.2)], [], p.2.1⟩)
    (Pr := fun p => ∃ out, keepI l K p.2.2 out ∧ ((p.1 = .sl (.ex 42 4) [] ∧ p.2.1 = σ ∧ out = []) ∨ ∃ b, p.1 = .ms 42 4 b 0 out.length ∧ BoxL σ p.2.1 b out ∧ 0 < out.length)) (μ := fun p => l.length - p.2.2) (a := (.sl (.ex 42 4) [], σ, 0)) (by simp) ⟨[], ⟨by simp, by simp [keepP]⟩, .inl ⟨rfl, rfl, rfl⟩⟩ ?_
  rintro ⟨v, S, i⟩ ⟨out, ⟨hi, ho⟩, hv⟩
  simp only at hi ho hv ⊢
  have w1 : IntKind.i64.wrap ((i : Int) + 1) = (i : Int) + 1 := wrap64 (by omega)
  by_cases hc : i < l.length
  · obtain ⟨x, hx⟩ : ∃ x, l[i]? = some x := ⟨_, List.getElem?_eq_getElem hc⟩
    have hol : out.length ≤ l.length := by
      rw [ho]; unfold keepP
      exact Nat.le_trans (List.length_filter_le ..) (by simp; omega)
    have hk : keepP (l.take (i + 1)) K = keepP (l.take i) K ++ if K.any (x.1 == ·) then [x] else [] := by
      unfold keepP
      rw [List.take_add_one, hx, List.filter_append]
      congr 1
      simp only [Option.toList_some, List.filter_cons, List.filter_nil]
    have hC := hC x.1
    have hm1 : (1 : Nat) ≤ most := by unfold most; omega
    have hm : out.length + 1 ≤ most := by unfold most; omega
    cases hq : K.any (x.1 == ·) with
    | true =>
      rw [hq] at hC hk
      have hnx : keepI l K (i + 1) (out ++ [x]) := ⟨by omega, by rw [hk, ho]; rfl⟩
      have hrow : rowE esL (out ++ [x]) = rowE esL out ++ [.str x.1.1, .str x.1.2, .int .i64 x.2.1, .str x.2.2] := by simp [rowE, esL]
      obtain ⟨⟨x1, x2⟩, x3, x4⟩ := x
      simp only at hC hrow
      rcases hv with ⟨rfl, rfl, rfl⟩ | ⟨b, rfl, hB, hpos⟩
      · simp (maxSteps := 4000000) [List.getElem?_cons_zero, List.getElem?_cons_succ, -getElem?_pos, -Prod.exists, -Prod.forall, hc, hx, lnFx, hC, hm1, w1]
        exact ⟨(.ms 42 4 S.length 0 1, S ++ [[.str x1, .str x2, .int .i64 x3, .str x4]], i + 1), ⟨_, hnx, .inr ⟨S.length, rfl, ⟨by simp [rowE, esL], by simp, Nat.le_refl _⟩, by simp⟩⟩, by simp; omega, by simp⟩
      · have hg := hB.get
        have hgl : (rowE esL out).length = out.length * 4 := es_lenL
        obtain ⟨C, hCe⟩ : ∃ C, rowE esL out = C := ⟨_, rfl⟩
        rw [hCe] at hg hgl hrow
        simp (maxSteps := 4000000) [List.getElem?_cons_zero, List.getElem?_cons_succ, -getElem?_pos, -Prod.exists, -Prod.forall, hc, hx, lnFx, hC, hm, hg, hgl, hpos, w1]
        exact ⟨(.ms 42 4 S.length 0 (out.length + 1), S.set b [] ++ [C ++ [.str x1, .str x2, .int .i64 x3, .str x4]], i + 1), ⟨_, hnx, .inr ⟨S.length, by simp, ⟨by rw [hrow]; simp, by rw [List.take_append_of_le_length (by simp; have := hB.lt; have := hB.le; omega), List.take_set_of_le hB.le]; exact hB.take, by have := hB.lt; have := hB.le; omega⟩, by simp⟩⟩, by simp; omega, by simp⟩
    | false =>
      rw [hq] at hC hk
      have hnx : keepI l K (i + 1) out := ⟨by omega, by rw [hk, ho]; simp⟩
      obtain ⟨⟨x1, x2⟩, x3, x4⟩ := x
      simp only at hC
      rcases hv with ⟨rfl, rfl, rfl⟩ | ⟨b, rfl, hB, hpos⟩
      · simp (maxSteps := 4000000) [List.getElem?_cons_zero, List.getElem?_cons_succ, -getElem?_pos, -Prod.exists, -Prod.forall, hc, hx, lnFx, hC, w1]
        exact ⟨(.sl (.ex 42 4) [], S, i + 1), ⟨_, hnx, .inl ⟨rfl, rfl, rfl⟩⟩, by simp; omega, by simp⟩
      · simp (maxSteps := 4000000) [List.getElem?_cons_zero, List.getElem?_cons_succ, -getElem?_pos, -Prod.exists, -Prod.forall, hc, hx, lnFx, hC, w1]
        exact ⟨(.ms 42 4 b 0 out.length, S, i + 1), ⟨_, hnx, .inr ⟨b, rfl, hB, hpos⟩⟩, by simp; omega, by simp⟩
  · have ho2 : keepP l K = out := by rw [ho, List.take_of_length_le (by omega)]
    rw [ho2]
    rcases hv with ⟨rfl, rfl, rfl⟩ | ⟨b, rfl, hB, hpos⟩
    · simp (maxSteps := 4000000) [List.getElem?_cons_zero, List.getElem?_cons_succ, hc, Tryz.results18] <;> exact ⟨_, _, ⟨rfl, rfl⟩, _, _, ⟨rfl, rfl⟩, .inl ⟨rfl, rfl, rfl⟩⟩
    · simp (maxSteps := 4000000) [List.getElem?_cons_zero, List.getElem?_cons_succ, hc, Tryz.results18] <;> exact ⟨_, _, ⟨rfl, rfl⟩, _, _, ⟨rfl, rfl⟩, .inr ⟨b, rfl, hB, hpos⟩⟩
end Go.Proofs.Tryz.Ai
end
section
/- sumfile: lines in a box beside the document's. -/
namespace Go.Proofs.Tryz.Ai
open Go Go.AI Go.Proofs Go.B64
set_option maxHeartbeats 8000000
set_option maxRecDepth 4000
set_option linter.unusedVariables false

theorem row_dropL {L : List Ln} {i : Nat} {x : Ln} (h : L[i]? = some x) : (rowE esL L).drop (i * 4) = [.str x.1.1, .str x.1.2, .int .i64 x.2.1, .str x.2.2] ++ (rowE esL L).drop (i * 4 + 4) := by
  rw [← es_getL h, ← List.drop_drop, List.take_append_drop]
theorem row_2L {L : List Ln} {i : Nat} {x : Ln} (h : L[i]? = some x) : ((rowE esL L).drop (i * 4)).take 2 = [.str x.1.1, .str x.1.2] := by
  rw [row_dropL h]; rfl
theorem row_atL {L : List Ln} {i : Nat} {x : Ln} (h : L[i]? = some x) (k : Nat) : (rowE esL L)[i * 4 + k]? = ([.str x.1.1, .str x.1.2, .int .i64 x.2.1, .str x.2.2] ++ (rowE esL L).drop (i * 4 + 4))[k]? := by
  rw [← row_dropL h, List.getElem?_drop]
theorem SameLinesM_eq (a b : List Ln) (ha : a.length ≤ 2 ^ 30) (bx : Nat) (σ : List (List AV)) (hB : σ[bx]? = some (rowE esL a)) : ev 19 [.ms 42 4 bx 0 a.length, .sl .sh (b.map lnF)] σ = some (.bool (decide (a = b)), σ) := by
  refine EV_post rfl Tryz.func19 rfl (by simp [Tryz.ntmps19]) (by kernel_rfl) (by kernel_rfl) ?_
  by_cases hl : a.length = b.length
  · simp (maxSteps := 4000000) [List.getElem?_cons_zero, List.getElem?_cons_succ, hl]
    refine Post_loop (I := fun i : Nat => ⟨[(0, .ms 42 4 bx 0 a.length), (1, .sl .sh (b.map lnF)), (5, .int .i64 i)], [], σ⟩) (Pr := fun i => i ≤ a.length ∧ a.take i = b.take i) (μ := fun i => a.length - i) (a := 0) (by simp [hl]) (by simp) ?_
    rintro i ⟨i1, i2⟩
    have w1 : IntKind.i64.wrap ((i : Int) + 1) = (i : Int) + 1 := wrap64 (by omega)
    by_cases hc : i < a.length
    · obtain ⟨x, hx⟩ : ∃ z, a[i]? = some z := ⟨_, List.getElem?_eq_getElem hc⟩
      obtain ⟨y, hy⟩ : ∃ z, b[i]? = some z := ⟨_, List.getElem?_eq_getElem (by omega)⟩
      have hcb : i < b.length := by omega
      have hne : x ≠ y → decide (a = b) = false := fun h => by
        rw [decide_eq_false_iff_not]
        intro e; subst e
        rw [hx] at hy; injection hy with hy; exact h hy
      have g2 := row_2L hx
      have g3 := row_atL hx 2
      have g4 := row_atL hx 3
      simp only [List.cons_append, List.getElem?_cons_succ, List.getElem?_cons_zero] at g3 g4
      have r1 : i * 4 + 2 ≤ (rowE esL a).length := by rw [es_lenL]; omega
      have r2 : i * 4 + 2 < (rowE esL a).length := by rw [es_lenL]; omega
      have r3 : i * 4 + 3 < (rowE esL a).length := by rw [es_lenL]; omega
      have r4 := es_bndL hx
      have hdm := es_demL (D := a)
      obtain ⟨C, hC⟩ : ∃ C, rowE esL a = C := ⟨_, rfl⟩
      rw [hC] at hdm hB g2 g3 g4 r1 r2 r3 r4
      obtain ⟨⟨x1, x2⟩, x3, x4⟩ := x
      obtain ⟨⟨y1, y2⟩, y3, y4⟩ := y
      simp only at g2 g3 g4
      by_cases e1 : (x1 == y1 && x2 == y2) = true
      · by_cases e3 : x3 = y3
        · by_cases e4 : (x4 == y4) = true
          · have hxy : (((x1, x2), x3, x4) : Ln) = ((y1, y2), y3, y4) := by
              simp at e1 e4
              rw [e1.1, e1.2, e3, e4]
            rw [hxy] at hx
            simp (maxSteps := 4000000) [List.getElem?_cons_zero, List.getElem?_cons_succ, -getElem?_pos, -Prod.exists, -Prod.forall, -Bool.and_eq_true, -beq_iff_eq, -regionA_true, hl, hc, hcb]
            refine Post_bndD [] _ (by rfl) (by simp (maxSteps := 4000000) [List.getElem?_cons_zero, List.getElem?_cons_succ, ]; exact rfl) ?_
            repeat (first
              | refine PostD_go _ (by rfl) (by rfl) (by simp (maxSteps := 4000000) [List.getElem?_cons_zero, List.getElem?_cons_succ, -getElem?_pos, -Bool.and_eq_true, -beq_iff_eq, hc, hcb, hl, hB, hdm, g2, g3, g4, r1, r2, r3, r4, hy, lnFx, e1, eq_true e3, e4]; exact rfl) (by first | exact .inl rfl | exact .inr rfl) (by rfl) ?_
              | refine PostD_no1 _ (by rfl) (by rfl) (by simp (maxSteps := 4000000) [List.getElem?_cons_zero, List.getElem?_cons_succ, ]; exact rfl) ?_)
            refine PostD_end ?_
            simp (maxSteps := 4000000) [List.getElem?_cons_zero, List.getElem?_cons_succ, -Prod.exists, -Prod.forall, w1]
            exact ⟨i + 1, ⟨by omega, by rw [List.take_add_one, List.take_add_one, hx, hy, i2]⟩, by omega, by simp [hl]⟩
          · have hh := hne (fun e => e4 (by simp at e; simp [e.2.2]))
            have e4' : (x4 == y4) = false := by simpa using e4
            simp (maxSteps := 4000000) [List.getElem?_cons_zero, List.getElem?_cons_succ, -getElem?_pos, -Prod.exists, -Prod.forall, -Bool.and_eq_true, -beq_iff_eq, -regionA_true, hl, hc, hcb]
            refine Post_bndD [] _ (by rfl) (by simp (maxSteps := 4000000) [List.getElem?_cons_zero, List.getElem?_cons_succ, ]; exact rfl) ?_
            repeat (first
              | refine PostD_go _ (by rfl) (by rfl) (by simp (maxSteps := 4000000) [List.getElem?_cons_zero, List.getElem?_cons_succ, -getElem?_pos, -Bool.and_eq_true, -beq_iff_eq, -beq_eq_false_iff_ne, hc, hcb, hl, hB, hdm, g2, g3, g4, r1, r2, r3, r4, hy, lnFx, e1, eq_true e3, e4']; exact rfl) (by first | exact .inl rfl | exact .inr rfl) (by rfl) ?_
              | refine PostD_no1 _ (by rfl) (by rfl) (by simp (maxSteps := 4000000) [List.getElem?_cons_zero, List.getElem?_cons_succ, ]; exact rfl) ?_)
            refine PostD_end ?_
            simp (maxSteps := 4000000) [List.getElem?_cons_zero, List.getElem?_cons_succ, hh, Tryz.results19]
        · have hh := hne (fun e => e3 (by simp at e; exact e.2.1))
          simp (maxSteps := 4000000) [List.getElem?_cons_zero, List.getElem?_cons_succ, -getElem?_pos, -Prod.exists, -Prod.forall, -Bool.and_eq_true, -beq_iff_eq, -regionA_true, hl, hc, hcb]
          refine Post_bndD [] _ (by rfl) (by simp (maxSteps := 4000000) [List.getElem?_cons_zero, List.getElem?_cons_succ, ]; exact rfl) ?_
          repeat (first
            | refine PostD_go _ (by rfl) (by rfl) (by simp (maxSteps := 4000000) [List.getElem?_cons_zero, List.getElem?_cons_succ, -getElem?_pos, -Bool.and_eq_true, -beq_iff_eq, hc, hcb, hl, hB, hdm, g2, g3, g4, r1, r2, r3, r4, hy, lnFx, e1, e3]; exact rfl) (by first | exact .inl rfl | exact .inr rfl) (by rfl) ?_
            | refine PostD_no1 _ (by rfl) (by rfl) (by simp (maxSteps := 4000000) [List.getElem?_cons_zero, List.getElem?_cons_succ, ]; exact rfl) ?_)
          refine PostD_end ?_
          simp (maxSteps := 4000000) [List.getElem?_cons_zero, List.getElem?_cons_succ, hh, Tryz.results19]
      · have hh := hne (fun e => e1 (by simp at e; simp [e.1]))
        have e1' : (x1 == y1 && x2 == y2) = false := by simpa using e1
        simp (maxSteps := 4000000) [List.getElem?_cons_zero, List.getElem?_cons_succ, -getElem?_pos, -Prod.exists, -Prod.forall, -Bool.and_eq_true, -beq_iff_eq, -regionA_true, hl, hc, hcb]
        refine Post_bndD [] _ (by rfl) (by simp (maxSteps := 4000000) [List.getElem?_cons_zero, List.getElem?_cons_succ, ]; exact rfl) ?_
        repeat (first
          | refine PostD_go _ (by rfl) (by rfl) (by simp (maxSteps := 4000000) [List.getElem?_cons_zero, List.getElem?_cons_succ, -getElem?_pos, -Bool.and_eq_true, -Bool.and_eq_false_imp, -beq_iff_eq, hc, hcb, hl, hB, hdm, g2, g3, g4, r1, r2, r3, r4, hy, lnFx, e1']; exact rfl) (by first | exact .inl rfl | exact .inr rfl) (by rfl) ?_
          | refine PostD_no1 _ (by rfl) (by rfl) (by simp (maxSteps := 4000000) [List.getElem?_cons_zero, List.getElem?_cons_succ, ]; exact rfl) ?_)
        refine PostD_end ?_
        simp (maxSteps := 4000000) [List.getElem?_cons_zero, List.getElem?_cons_succ, hh, Tryz.results19]
    · have hab : a = b := by
        rw [List.take_of_length_le (by omega), List.take_of_length_le (by omega)] at i2
        exact i2
      have hd : decide (a = b) = true := by rw [hab]; simp
      have hcb : ¬ i < b.length := by omega
      simp (maxSteps := 4000000) [List.getElem?_cons_zero, List.getElem?_cons_succ, hcb, hc, hl, hd, Tryz.results19]
  · have hd : decide (a = b) = false := by rw [decide_eq_false_iff_not]; intro e; exact hl (by rw [e])
    simp (maxSteps := 4000000) [List.getElem?_cons_zero, List.getElem?_cons_succ, hl, hd, Tryz.results19]
end Go.Proofs.Tryz.Ai
end
