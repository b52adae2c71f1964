/- Part 7 of a proof: a Go function is evaluated on abstract values (texts LMerges .. FMerges); no conditions beyond those of each theorem. -/
import Derived.Test.YtoofpdaplnjmdaaGreatDoorAi6
import Derived.Test.YtoofpdaplnjmdaaGreatDoorRows
import Derived.Test.YtoofpdaplnjmdaaGreatDoorCards
import Derived.Test.YtoofpdaplnjmdaaGreatDoorTie
import Derived.WalkKit
import Derived.ProofKit
import Derived.OpenShut
import Derived.Below
import Derived.ChangeOld
import Derived.Deep.DeepHandedRow
import Derived.Lib.LaidTab
import Derived.Lay
import Derived.MakeChecks
set_option linter.all false
set_option linter.unusedVariables false
set_option linter.unusedSimpArgs false
set_option linter.unnecessarySimpa false
section
/- SumfileMerges: the evaluation. -/
namespace Go.Proofs.Tryz.Ai
open Go Go.AI Go.Proofs Go.B64
set_option maxHeartbeats 8000000
set_option maxRecDepth 4000
set_option linter.unusedVariables false

/-- boxes that are written into -/
def wrI (σ S : List (List AV)) (o : List (Nat × Nat)) : Prop := S.take σ.length = σ ∧ ∀ p ∈ o, σ.length ≤ p.1 ∧ ∃ C, S[p.1]? = some C ∧ C.length = p.2 * 4
theorem wrI.set {σ S : List (List AV)} {o : List (Nat × Nat)} (h : wrI σ S o) {b : Nat} {C' : List AV} (hb : σ.length ≤ b) (hlt : b < S.length) (hn : ∀ p ∈ o, p.1 = b → C'.length = p.2 * 4) : wrI σ (S.set b C') o := by
  refine ⟨by rw [List.take_set_of_le hb]; exact h.1, fun p hp => ?_⟩
  obtain ⟨h1, C, h2, h3⟩ := h.2 p hp
  refine ⟨h1, ?_⟩
  by_cases e : p.1 = b
  · exact ⟨C', by rw [e, List.getElem?_set, if_pos rfl, if_pos hlt], hn p hp e⟩
  · exact ⟨C, by rw [List.getElem?_set, if_neg (fun q => e q.symm)]; exact h2, h3⟩
theorem wrI.low {σ S : List (List AV)} {o : List (Nat × Nat)} (h : wrI σ S o) : lowS σ S := fun b hb => .inl (by
  have := congrArg (fun l : List (List AV) => l[b]?) h.1
  simp only [List.getElem?_take, if_pos hb] at this
  exact this)
def upI (n i : Nat) (σ S : List (List AV)) (o : List (Nat × Nat)) : Prop := i ≤ n ∧ wrI σ S o
theorem mergesLaw0 (a b : List Ln) (m : List UInt8 × List UInt8) (k : Int) (K : List (List UInt8 × List UInt8)) (hal : a.length ≤ 2 ^ 20) (hbl : b.length ≤ 2 ^ 20) (ha : ∀ x ∈ a, lnS x) (hb : ∀ x ∈ b, lnS x) (hK : K.length ≤ 2 ^ 20) (σ : List (List AV)) :
    ev 3 [.sl .sh (a.map lnF), .sl .sh (b.map lnF), .agg [.str m.1, .str m.2], .int .i64 k, .sl .sh (K.map fun m => .agg [.str m.1, .str m.2])] σ = some (.bool true, σ) := by
  have hF := first_eq
  have hN := fun e => Num_eq e
  obtain ⟨f1, hf1, _⟩ := few_eq a (by omega) (fun x hx => by obtain ⟨h1, h2, h3⟩ := ha x hx; exact ⟨by omega, by omega, by omega⟩) σ
  obtain ⟨f2, hf2, _⟩ := few_eq b (by omega) (fun x hx => by obtain ⟨h1, h2, h3⟩ := hb x hx; exact ⟨by omega, by omega, by omega⟩) σ
  have hQab : ∀ x ∈ a ++ b, lnM x := fun x hx => by
    rcases List.mem_append.1 hx with h | h
    · obtain ⟨h1, h2, h3⟩ := ha x h; exact ⟨by omega, by omega⟩
    · obtain ⟨h1, h2, h3⟩ := hb x h; exact ⟨by omega, by omega⟩
  have hMl : (mrgP a b).1.length ≤ 2 ^ 22 := by
    have hI : ∀ {l out o : List Ln}, mrgF lnK out l = some o → o.length ≤ out.length + l.length := by
      intro l
      induction l with
      | nil => intro out o e; rw [mrgF] at e; injection e with e; subst e; simp
      | cons x r ih =>
        intro out o e
        rw [mrgL_step] at e
        split at e
        · split at e
          · have := ih e; simp at this ⊢; omega
          · cases e
        · have := ih e; simp at this ⊢; omega
    unfold mrgP
    split
    · rename_i o ho
      have := hI ho
      simp only [isrt_len]
      simp at this; omega
    · simp
  have hkl : (keepP a K).length ≤ 2 ^ 20 := by unfold keepP; exact Nat.le_trans (List.length_filter_le ..) hal
  have hM := MergeM_eq a b (by omega) (by omega) hQab σ
  have hM2 := rMerge_eq a b (by omega) (by omega) hQab
  have hFd := Find_eq a (by omega) m k
  have hFd2 := rFind_eq a (by omega) m k
  have hKp2 := rKeep_eq a (by omega) K (by omega)
  have hLa := Lines_eq a (by omega)
  have hLb := Lines_eq b (by omega)
  have hSa := SameLines_eq a a (by omega)
  have hda : decide (a = a) = true := by simp
  rw [hda] at hSa
  obtain ⟨e, he⟩ : ∃ e, (mrgP a b).2 = e := ⟨_, rfl⟩
  obtain ⟨s, hs⟩ : ∃ s, (findP a m k).getD [] = s := ⟨_, rfl⟩
  obtain ⟨is, his⟩ : ∃ s, (findP a m k).isSome = s := ⟨_, rfl⟩
  have hfa : findAV (findP a m k) = .tup [.str s, .bool is] := by rw [← hs, ← his]; rfl
  rw [hfa] at hFd hFd2
  have e1 : (s == s) = true := by simp
  have e2 : (is == is) = true := by simp
  rw [he] at hM hM2
  obtain ⟨M, hMe⟩ : ∃ M, (mrgP a b).1 = M := ⟨_, rfl⟩
  rw [hMe] at hM hM2 hMl
  obtain ⟨m1, m2⟩ := m
  simp only at hFd hFd2 ⊢
  have main : ∀ (v1 v2 : AV) (S1 S2 : List (List AV)) (n1 n2 : Nat) (ms1 ms2 : Bool) (b1 b2 : Nat), n1 ≤ 2 ^ 22 → n2 ≤ 2 ^ 22 →
      ev (100000 + 13) [.sl .sh (a.map lnF), .sl .sh (b.map lnF)] σ = some (.tup [v1, .int .i64 e], S1) →
      ev (100000 + 18) [.sl .sh (a.map lnF), .sl .sh (K.map fun m => .agg [.str m.1, .str m.2])] S1 = some (v2, S2) →
      (∀ x, x = (if ms1 then v1 else .sl .sh []) → ev 19 [x, .sl .sh (M.map lnF)] S2 = some (.bool true, S2)) →
      (∀ x, x = (if ms2 then v2 else .sl .sh []) → ev 19 [x, .sl .sh ((keepP a K).map lnF)] S2 = some (.bool true, S2)) →
      wrI σ S2 ((if ms1 then [(b1, n1)] else []) ++ (if ms2 then [(b2, n2)] else [])) →
      ((ms1 = true ∧ v1 = .ms 42 4 b1 0 n1) ∨ (ms1 = false ∧ v1 = .sl .sh [])) →
      ((ms2 = true ∧ v2 = .ms 42 4 b2 0 n2) ∨ (ms2 = false ∧ v2 = .sl (.ex 42 4) [])) →
      ev 3 [.sl .sh (a.map lnF), .sl .sh (b.map lnF), .agg [.str m1, .str m2], .int .i64 k, .sl .sh (K.map fun m => .agg [.str m.1, .str m.2])] σ = some (.bool true, σ) := by
    intro v1 v2 S1 S2 n1 n2 ms1 ms2 b1 b2 hn1 hn2 hM hKp hSM hSK hW hv1 hv2
    clear he hs his hfa ha hb hQab hMe hkl
    obtain ⟨KP, hKP⟩ : ∃ L, (keepP a K).map lnF = L := ⟨_, rfl⟩
    obtain ⟨ML, hML⟩ : ∃ L, M.map lnF = L := ⟨_, rfl⟩
    obtain ⟨KK, hKK⟩ : ∃ L, (K.map fun m => AV.agg [.str m.1, .str m.2]) = L := ⟨_, rfl⟩
    have nK : KK.length = K.length := by rw [← hKK, List.length_map]
    obtain ⟨LA, hLA⟩ : ∃ L, a.map lnF = L := ⟨_, rfl⟩
    obtain ⟨LB, hLB⟩ : ∃ L, b.map lnF = L := ⟨_, rfl⟩
    rw [hKP] at hSK hKp2
    rw [hML] at hSM hM2
    rw [hKK] at hKp hKp2
    rw [hLA] at hM hKp hM2 hFd hFd2 hKp2 hLa hSa hf1
    rw [hLB] at hM hM2 hLb hf2
    rw [hLA, hLB, hKK]
    refine EV_post rfl Tryz.func3 rfl (by simp [Tryz.ntmps3]) (by kernel_rfl) (by kernel_rfl) ?_
    cases f1 with
    | false => simp (maxSteps := 4000000) [List.getElem?_cons_zero, List.getElem?_cons_succ, hF, hf1, Tryz.results3]
    | true =>
      cases f2 with
      | false => simp (maxSteps := 4000000) [List.getElem?_cons_zero, List.getElem?_cons_succ, hF, hf1, hf2, Tryz.results3]
      | true =>
        by_cases c4 : 100 < K.length
        · simp (maxSteps := 4000000) [List.getElem?_cons_zero, List.getElem?_cons_succ, hF, hf1, hf2, nK, c4, Tryz.results3]
        by_cases c5 : 8000 < m1.length
        · simp (maxSteps := 4000000) [List.getElem?_cons_zero, List.getElem?_cons_succ, hF, hf1, hf2, nK, c4, c5, Tryz.results3]
        rcases hv1 with ⟨rfl, rfl⟩ | ⟨rfl, rfl⟩ <;> rcases hv2 with ⟨rfl, rfl⟩ | ⟨rfl, rfl⟩
        · simp only [if_true, if_false, Bool.false_eq_true, reduceIte] at hSM hSK hW
          have hSM := hSM _ rfl
          have hSK := hSK _ rfl
          simp (maxSteps := 4000000) [List.getElem?_cons_zero, List.getElem?_cons_succ, -getElem?_pos, -regionA_true, -Prod.forall, -Prod.exists, hF, hf1, hf2, nK, c4, c5, hM, hM2, hFd, hLa, hLb, hN]
          refine Post_bndD [] _ (by rfl) (by simp (maxSteps := 4000000) [List.getElem?_cons_zero, List.getElem?_cons_succ, ]; exact rfl) ?_
          repeat (first
            | refine PostD_go _ (by rfl) (by rfl) (by simp (maxSteps := 4000000) [List.getElem?_cons_zero, List.getElem?_cons_succ, -getElem?_pos, hLa, hFd2]; exact rfl) (by first | exact .inl rfl | exact .inr rfl) (by rfl) ?_
            | refine PostD_no1 _ (by rfl) (by rfl) (by simp (maxSteps := 4000000) [List.getElem?_cons_zero, List.getElem?_cons_succ, ]; exact rfl) ?_)
          refine PostD_end ?_
          simp (maxSteps := 4000000) [List.getElem?_cons_zero, List.getElem?_cons_succ, -getElem?_pos, -Prod.forall, -Prod.exists, hKp, hKp2, hLa, hSM, hSK]
          refine Post_loop (I := fun p : Nat × List (List AV) => ⟨[(0, .sl .sh LA), (13, .ms 42 4 b1 0 n1), (14, .int .i64 e), (16, .int .i64 e), (17, .str s), (18, .bool is), (19, .str s), (20, .bool is), (21, .ms 42 4 b2 0 n2), (22, .bool true), (23, .bool true), (24, .sl (.ex 82 4) LA), (25, .int .i64 p.1)], [], p.2⟩) (Pr := fun p => upI n1 p.1 σ p.2 ([(b1, n1)] ++ [(b2, n2)])) (μ := fun p => n1 - p.1) (a := (0, S2)) (by simp) ⟨Nat.zero_le _, hW⟩ ?_
          rintro ⟨i, S3⟩ ⟨hi, hW⟩
          simp only at hi hW ⊢
          have w1 : IntKind.i64.wrap ((i : Int) + 1) = (i : Int) + 1 := wrap64 (by omega)
          by_cases hc : i < n1
          · obtain ⟨hb0, C, hC, hCl⟩ := hW.2 (b1, n1) (by simp)
            simp only at hb0 hC hCl
            have hlt : b1 < S3.length := (List.getElem?_eq_some_iff.1 hC).1
            have r1 : i * 4 + 4 ≤ C.length := by omega
            simp (maxSteps := 4000000) [List.getElem?_cons_zero, List.getElem?_cons_succ, -getElem?_pos, -Prod.forall, -Prod.exists, hc, hC, r1, w1]
            refine ⟨(i + 1, _), ⟨by simp only; omega, hW.set hb0 hlt fun p hp hq => ?_⟩, by simp only; omega, by simp, rfl⟩
            have hpn : p.2 * 4 = C.length := by
              obtain ⟨_, C2, h2, h3⟩ := hW.2 p hp
              rw [hq, hC] at h2; injection h2 with h2; rw [h2, h3]
            rw [hpn]
            simp only [List.length_append, List.length_take, List.length_cons, List.length_drop]
            omega
          · simp (maxSteps := 4000000) [List.getElem?_cons_zero, List.getElem?_cons_succ, hc]
            refine Post_loop (I := fun p : Nat × List (List AV) => ⟨[(0, .sl .sh LA), (14, .int .i64 e), (16, .int .i64 e), (17, .str s), (18, .bool is), (19, .str s), (20, .bool is), (21, .ms 42 4 b2 0 n2), (22, .bool true), (23, .bool true), (24, .sl (.ex 82 4) LA), (26, .int .i64 p.1)], [], p.2⟩) (Pr := fun p => upI n2 p.1 σ p.2 ([(b1, n1)] ++ [(b2, n2)])) (μ := fun p => n2 - p.1) (a := (0, S3)) (by simp) ⟨Nat.zero_le _, hW⟩ ?_
            rintro ⟨i, S4⟩ ⟨hi, hW⟩
            simp only at hi hW ⊢
            have w1 : IntKind.i64.wrap ((i : Int) + 1) = (i : Int) + 1 := wrap64 (by omega)
            by_cases hc : i < n2
            · obtain ⟨hb0, C, hC, hCl⟩ := hW.2 (b2, n2) (by simp)
              simp only at hb0 hC hCl
              have hlt : b2 < S4.length := (List.getElem?_eq_some_iff.1 hC).1
              have r1 : i * 4 + 4 ≤ C.length := by omega
              simp (maxSteps := 4000000) [List.getElem?_cons_zero, List.getElem?_cons_succ, -getElem?_pos, -Prod.forall, -Prod.exists, hc, hC, r1, w1]
              refine ⟨(i + 1, _), ⟨by simp only; omega, hW.set hb0 hlt fun p hp hq => ?_⟩, by simp only; omega, by simp, rfl⟩
              have hpn : p.2 * 4 = C.length := by
                obtain ⟨_, C2, h2, h3⟩ := hW.2 p hp
                rw [hq, hC] at h2; injection h2 with h2; rw [h2, h3]
              rw [hpn]
              simp only [List.length_append, List.length_take, List.length_cons, List.length_drop]
              omega
            · have hlow := hW.low
              simp (maxSteps := 4000000) [List.getElem?_cons_zero, List.getElem?_cons_succ, hc, hN, e1, e2, hSa, need_of hlow, hW.1, Tryz.results3]
        · simp only [if_true, if_false, Bool.false_eq_true, reduceIte] at hSM hSK hW
          have hSM := hSM _ rfl
          have hSK := hSK _ rfl
          simp (maxSteps := 4000000) [List.getElem?_cons_zero, List.getElem?_cons_succ, -getElem?_pos, -regionA_true, -Prod.forall, -Prod.exists, hF, hf1, hf2, nK, c4, c5, hM, hM2, hFd, hLa, hLb, hN]
          refine Post_bndD [] _ (by rfl) (by simp (maxSteps := 4000000) [List.getElem?_cons_zero, List.getElem?_cons_succ, ]; exact rfl) ?_
          repeat (first
            | refine PostD_go _ (by rfl) (by rfl) (by simp (maxSteps := 4000000) [List.getElem?_cons_zero, List.getElem?_cons_succ, -getElem?_pos, hLa, hFd2]; exact rfl) (by first | exact .inl rfl | exact .inr rfl) (by rfl) ?_
            | refine PostD_no1 _ (by rfl) (by rfl) (by simp (maxSteps := 4000000) [List.getElem?_cons_zero, List.getElem?_cons_succ, ]; exact rfl) ?_)
          refine PostD_end ?_
          simp (maxSteps := 4000000) [List.getElem?_cons_zero, List.getElem?_cons_succ, -getElem?_pos, -Prod.forall, -Prod.exists, hKp, hKp2, hLa, hSM, hSK]
          refine Post_loop (I := fun p : Nat × List (List AV) => ⟨[(0, .sl .sh LA), (13, .ms 42 4 b1 0 n1), (14, .int .i64 e), (16, .int .i64 e), (17, .str s), (18, .bool is), (19, .str s), (20, .bool is), (21, .sl (.ex 42 4) []), (22, .bool true), (23, .bool true), (24, .sl (.ex 82 4) LA), (25, .int .i64 p.1)], [], p.2⟩) (Pr := fun p => upI n1 p.1 σ p.2 ([(b1, n1)] ++ [])) (μ := fun p => n1 - p.1) (a := (0, S2)) (by simp) ⟨Nat.zero_le _, hW⟩ ?_
          rintro ⟨i, S3⟩ ⟨hi, hW⟩
          simp only at hi hW ⊢
          have w1 : IntKind.i64.wrap ((i : Int) + 1) = (i : Int) + 1 := wrap64 (by omega)
          by_cases hc : i < n1
          · obtain ⟨hb0, C, hC, hCl⟩ := hW.2 (b1, n1) (by simp)
            simp only at hb0 hC hCl
            have hlt : b1 < S3.length := (List.getElem?_eq_some_iff.1 hC).1
            have r1 : i * 4 + 4 ≤ C.length := by omega
            simp (maxSteps := 4000000) [List.getElem?_cons_zero, List.getElem?_cons_succ, -getElem?_pos, -Prod.forall, -Prod.exists, hc, hC, r1, w1]
            refine ⟨(i + 1, _), ⟨by simp only; omega, hW.set hb0 hlt fun p hp hq => ?_⟩, by simp only; omega, by simp, rfl⟩
            have hpn : p.2 * 4 = C.length := by
              obtain ⟨_, C2, h2, h3⟩ := hW.2 p hp
              rw [hq, hC] at h2; injection h2 with h2; rw [h2, h3]
            rw [hpn]
            simp only [List.length_append, List.length_take, List.length_cons, List.length_drop]
            omega
          · simp (maxSteps := 4000000) [List.getElem?_cons_zero, List.getElem?_cons_succ, hc]
            refine Post_loop (I := fun q : Nat => ⟨[(0, .sl .sh LA), (14, .int .i64 e), (16, .int .i64 e), (17, .str s), (18, .bool is), (19, .str s), (20, .bool is), (21, .sl (.ex 42 4) []), (22, .bool true), (23, .bool true), (24, .sl (.ex 82 4) LA), (26, .int .i64 0)], [], S3⟩) (Pr := fun q => True) (μ := fun q => q) (a := 0) (by simp) trivial ?_
            intro q hq
            have hlow := hW.low
            simp (maxSteps := 4000000) [List.getElem?_cons_zero, List.getElem?_cons_succ, hN, e1, e2, hSa, need_of hlow, hW.1, Tryz.results3]
        · simp only [if_true, if_false, Bool.false_eq_true, reduceIte] at hSM hSK hW
          have hSM := hSM _ rfl
          have hSK := hSK _ rfl
          simp (maxSteps := 4000000) [List.getElem?_cons_zero, List.getElem?_cons_succ, -getElem?_pos, -regionA_true, -Prod.forall, -Prod.exists, hF, hf1, hf2, nK, c4, c5, hM, hM2, hFd, hLa, hLb, hN]
          refine Post_bndD [] _ (by rfl) (by simp (maxSteps := 4000000) [List.getElem?_cons_zero, List.getElem?_cons_succ, ]; exact rfl) ?_
          repeat (first
            | refine PostD_go _ (by rfl) (by rfl) (by simp (maxSteps := 4000000) [List.getElem?_cons_zero, List.getElem?_cons_succ, -getElem?_pos, hLa, hFd2]; exact rfl) (by first | exact .inl rfl | exact .inr rfl) (by rfl) ?_
            | refine PostD_no1 _ (by rfl) (by rfl) (by simp (maxSteps := 4000000) [List.getElem?_cons_zero, List.getElem?_cons_succ, ]; exact rfl) ?_)
          refine PostD_end ?_
          simp (maxSteps := 4000000) [List.getElem?_cons_zero, List.getElem?_cons_succ, -getElem?_pos, -Prod.forall, -Prod.exists, hKp, hKp2, hLa, hSM, hSK]
          refine Post_loop (I := fun q : Nat => ⟨[(0, .sl .sh LA), (13, .sl .sh []), (14, .int .i64 e), (16, .int .i64 e), (17, .str s), (18, .bool is), (19, .str s), (20, .bool is), (21, .ms 42 4 b2 0 n2), (22, .bool true), (23, .bool true), (24, .sl (.ex 82 4) LA), (25, .int .i64 0)], [], S2⟩) (Pr := fun q => True) (μ := fun q => q) (a := 0) (by simp) trivial ?_
          intro q hq
          simp (maxSteps := 4000000) [List.getElem?_cons_zero, List.getElem?_cons_succ, ]
          refine Post_loop (I := fun p : Nat × List (List AV) => ⟨[(0, .sl .sh LA), (14, .int .i64 e), (16, .int .i64 e), (17, .str s), (18, .bool is), (19, .str s), (20, .bool is), (21, .ms 42 4 b2 0 n2), (22, .bool true), (23, .bool true), (24, .sl (.ex 82 4) LA), (26, .int .i64 p.1)], [], p.2⟩) (Pr := fun p => upI n2 p.1 σ p.2 ([] ++ [(b2, n2)])) (μ := fun p => n2 - p.1) (a := (0, S2)) (by simp) ⟨Nat.zero_le _, hW⟩ ?_
          rintro ⟨i, S4⟩ ⟨hi, hW⟩
          simp only at hi hW ⊢
          have w1 : IntKind.i64.wrap ((i : Int) + 1) = (i : Int) + 1 := wrap64 (by omega)
          by_cases hc : i < n2
          · obtain ⟨hb0, C, hC, hCl⟩ := hW.2 (b2, n2) (by simp)
            simp only at hb0 hC hCl
            have hlt : b2 < S4.length := (List.getElem?_eq_some_iff.1 hC).1
            have r1 : i * 4 + 4 ≤ C.length := by omega
            simp (maxSteps := 4000000) [List.getElem?_cons_zero, List.getElem?_cons_succ, -getElem?_pos, -Prod.forall, -Prod.exists, hc, hC, r1, w1]
            refine ⟨(i + 1, _), ⟨by simp only; omega, hW.set hb0 hlt fun p hp hq => ?_⟩, by simp only; omega, by simp, rfl⟩
            have hpn : p.2 * 4 = C.length := by
              obtain ⟨_, C2, h2, h3⟩ := hW.2 p hp
              rw [hq, hC] at h2; injection h2 with h2; rw [h2, h3]
            rw [hpn]
            simp only [List.length_append, List.length_take, List.length_cons, List.length_drop]
            omega
          · have hlow := hW.low
            simp (maxSteps := 4000000) [List.getElem?_cons_zero, List.getElem?_cons_succ, hc, hN, e1, e2, hSa, need_of hlow, hW.1, Tryz.results3]
        · simp only [if_true, if_false, Bool.false_eq_true, reduceIte] at hSM hSK hW
          have hSM := hSM _ rfl
          have hSK := hSK _ rfl
          simp (maxSteps := 4000000) [List.getElem?_cons_zero, List.getElem?_cons_succ, -getElem?_pos, -regionA_true, -Prod.forall, -Prod.exists, hF, hf1, hf2, nK, c4, c5, hM, hM2, hFd, hLa, hLb, hN]
          refine Post_bndD [] _ (by rfl) (by simp (maxSteps := 4000000) [List.getElem?_cons_zero, List.getElem?_cons_succ, ]; exact rfl) ?_
          repeat (first
            | refine PostD_go _ (by rfl) (by rfl) (by simp (maxSteps := 4000000) [List.getElem?_cons_zero, List.getElem?_cons_succ, -getElem?_pos, hLa, hFd2]; exact rfl) (by first | exact .inl rfl | exact .inr rfl) (by rfl) ?_
            | refine PostD_no1 _ (by rfl) (by rfl) (by simp (maxSteps := 4000000) [List.getElem?_cons_zero, List.getElem?_cons_succ, ]; exact rfl) ?_)
          refine PostD_end ?_
          simp (maxSteps := 4000000) [List.getElem?_cons_zero, List.getElem?_cons_succ, -getElem?_pos, -Prod.forall, -Prod.exists, hKp, hKp2, hLa, hSM, hSK]
          refine Post_loop (I := fun q : Nat => ⟨[(0, .sl .sh LA), (13, .sl .sh []), (14, .int .i64 e), (16, .int .i64 e), (17, .str s), (18, .bool is), (19, .str s), (20, .bool is), (21, .sl (.ex 42 4) []), (22, .bool true), (23, .bool true), (24, .sl (.ex 82 4) LA), (25, .int .i64 0)], [], S2⟩) (Pr := fun q => True) (μ := fun q => q) (a := 0) (by simp) trivial ?_
          intro q hq
          simp (maxSteps := 4000000) [List.getElem?_cons_zero, List.getElem?_cons_succ, ]
          refine Post_loop (I := fun q : Nat => ⟨[(0, .sl .sh LA), (14, .int .i64 e), (16, .int .i64 e), (17, .str s), (18, .bool is), (19, .str s), (20, .bool is), (21, .sl (.ex 42 4) []), (22, .bool true), (23, .bool true), (24, .sl (.ex 82 4) LA), (26, .int .i64 0)], [], S2⟩) (Pr := fun q => True) (μ := fun q => q) (a := 0) (by simp) trivial ?_
          intro q hq
          have hlow := hW.low
          simp (maxSteps := 4000000) [List.getElem?_cons_zero, List.getElem?_cons_succ, hN, e1, e2, hSa, need_of hlow, hW.1, Tryz.results3]
  have hMM : decide (M = M) = true := by simp
  have hkk : decide (keepP a K = keepP a K) = true := by simp
  by_cases hM0 : M = []
  · have hv : mrgV σ M = (.sl .sh [], σ) := by unfold mrgV; rw [if_pos hM0]
    rw [hv] at hM
    have hS1 := fun S => SameLines_eq [] M (by simp) S
    have hd : decide (([] : List Ln) = M) = true := by rw [hM0]; simp
    rw [hd] at hS1
    obtain ⟨v2, S2, hKp, h2⟩ := KeepM_eq a (by omega) K (by omega) σ
    rcases h2 with ⟨rfl, rfl, h0⟩ | ⟨b2, rfl, hB, hpos⟩
    · have hS2 := fun S => SameLines_eq [] (keepP a K) (by simp) S
      have hd2 : decide (([] : List Ln) = keepP a K) = true := by rw [h0]; simp
      rw [hd2] at hS2
      exact main _ _ _ _ 0 0 false false 0 0 (by omega) (by omega) hM hKp (fun x hx => by rw [hx]; exact hS1 _) (fun x hx => by rw [hx]; exact hS2 _) ⟨by simp, by simp⟩ (.inr ⟨rfl, rfl⟩) (.inr ⟨rfl, rfl⟩)
    · have hS2 := SameLinesM_eq (keepP a K) (keepP a K) (by omega) b2 S2 hB.get
      rw [hkk] at hS2
      exact main _ _ _ _ 0 (keepP a K).length false true 0 b2 (by omega) (by omega) hM hKp (fun x hx => by rw [hx]; exact hS1 _) (fun x hx => by rw [hx]; exact hS2) ⟨hB.take, fun p hp => by simp at hp; subst hp; exact ⟨hB.le, _, hB.get, es_lenL⟩⟩ (.inr ⟨rfl, rfl⟩) (.inl ⟨rfl, rfl⟩)
  · have hv : mrgV σ M = (.ms 42 4 σ.length 0 M.length, σ ++ [rowE esL M]) := by unfold mrgV; rw [if_neg hM0]
    rw [hv] at hM
    obtain ⟨v2, S2, hKp, h2⟩ := KeepM_eq a (by omega) K (by omega) (σ ++ [rowE esL M])
    rcases h2 with ⟨rfl, rfl, h0⟩ | ⟨b2, rfl, hB, hpos⟩
    · have hS1 := SameLinesM_eq M M (by omega) σ.length (σ ++ [rowE esL M]) (by simp)
      rw [hMM] at hS1
      have hS2 := fun S => SameLines_eq [] (keepP a K) (by simp) S
      have hd2 : decide (([] : List Ln) = keepP a K) = true := by rw [h0]; simp
      rw [hd2] at hS2
      exact main _ _ _ _ M.length 0 true false σ.length 0 (by omega) (by omega) hM hKp (fun x hx => by rw [hx]; exact hS1) (fun x hx => by rw [hx]; exact hS2 _) ⟨by simp, fun p hp => by simp at hp; subst hp; exact ⟨Nat.le_refl _, _, by simp, es_lenL⟩⟩ (.inl ⟨rfl, rfl⟩) (.inr ⟨rfl, rfl⟩)
    · have hg : S2[σ.length]? = some (rowE esL M) := by
        have := congrArg (fun l : List (List AV) => l[σ.length]?) hB.take
        simpa [List.getElem?_take] using this
      have ht : S2.take σ.length = σ := by
        have := congrArg (fun l : List (List AV) => l.take σ.length) hB.take
        simpa [List.take_take, Nat.min_eq_left (Nat.le_succ _)] using this
      have hle := hB.le
      simp at hle
      have hS1 := SameLinesM_eq M M (by omega) σ.length S2 hg
      rw [hMM] at hS1
      have hS2 := SameLinesM_eq (keepP a K) (keepP a K) (by omega) b2 S2 hB.get
      rw [hkk] at hS2
      exact main _ _ _ _ M.length (keepP a K).length true true σ.length b2 (by omega) (by omega) hM hKp (fun x hx => by rw [hx]; exact hS1) (fun x hx => by rw [hx]; exact hS2) ⟨ht, fun p hp => by
        rcases (by simpa using hp : p = (σ.length, M.length) ∨ p = (b2, (keepP a K).length)) with rfl | rfl
        · exact ⟨Nat.le_refl _, _, hg, es_lenL⟩
        · exact ⟨by simp only; omega, _, hB.get, es_lenL⟩⟩ (.inl ⟨rfl, rfl⟩) (.inl ⟨rfl, rfl⟩)
theorem mergesLaw_eq (a b : List Ln) (m : List UInt8 × List UInt8) (k : Int) (K : List (List UInt8 × List UInt8)) (h1 : a.length ≤ 1048576 ∧ ∀ m ∈ a, m.1.1.length ≤ 1048576 ∧ m.1.2.length ≤ 1048576 ∧ m.2.2.length ≤ 1048576) (h2 : b.length ≤ 1048576 ∧ ∀ m ∈ b, m.1.1.length ≤ 1048576 ∧ m.1.2.length ≤ 1048576 ∧ m.2.2.length ≤ 1048576) (h5 : K.length ≤ 1048576 ∧ ∀ m ∈ K, m.1.length ≤ 1048576 ∧ m.2.length ≤ 1048576) (σ : List (List AV)) :
    ev 3 [.sl .sh (a.map fun m => .agg [.str m.1.1, .str m.1.2, .int .i64 m.2.1, .str m.2.2]), .sl .sh (b.map fun m => .agg [.str m.1.1, .str m.1.2, .int .i64 m.2.1, .str m.2.2]), .agg [.str m.1, .str m.2], .int .i64 k, .sl .sh (K.map fun m => .agg [.str m.1, .str m.2])] σ = some (.bool true, σ) :=
  mergesLaw0 a b m k K h1.1 h2.1 (fun x hx => h1.2 x hx) (fun x hx => h2.2 x hx) h5.1 σ
end Go.Proofs.Tryz.Ai
end
section
/- The bulk of what came in. -/
namespace Go.Proofs.YtoofpdaplnjmdaaGreatDoor
open Go Go.AI
set_option linter.unusedVariables false
section
variable {H : Type}
theorem bulk_pos (d : DataW H) : 1 ≤ Rows.uptoBulk d := by
  cases d with
  | lit l => cases l <;> simp [Rows.uptoBulk]
  | _ => simp [Rows.uptoBulk]
theorem bulk_all (ds : List (DataW H)) : ds.length ≤ Rows.uptoBulkAll ds ∧ ∀ d ∈ ds, Rows.uptoBulk d ≤ Rows.uptoBulkAll ds := by
  induction ds with
  | nil => simp
  | cons d r ih =>
    have := bulk_pos d
    simp only [Rows.uptoBulkAll, List.length_cons, List.mem_cons]
    refine ⟨by omega, ?_⟩
    rintro x (rfl | hx)
    · omega
    · have := ih.2 x hx; omega
theorem small_str {s : List UInt8} {d : DataW H} (h : d = .lit (.string s) ∧ s.length ≤ maxLen) : s.length ≤ Rows.uptoBulk d := by
  rw [h.1]; simp [Rows.uptoBulk]
theorem slq_small {α : Type} {Q : α → DataW H → Prop} {f : α → Nat} {l : List α} {d : DataW H} (h : slQ Q l d) (hf : ∀ a x, Q a x → f a ≤ Rows.uptoBulk x) : l.length ≤ Rows.uptoBulk d ∧ ∀ a ∈ l, f a ≤ Rows.uptoBulk d := by
  rcases h with ⟨rfl, rfl⟩ | ⟨ds, rest, rfl, hl, _, hq⟩
  · simp
  · simp only [Rows.uptoBulk]
    have := bulk_all ds
    refine ⟨by omega, fun a ha => ?_⟩
    obtain ⟨i, hi⟩ := List.mem_iff_getElem?.1 ha
    have hlt := (List.getElem?_eq_some_iff.1 hi).1
    obtain ⟨x, hx⟩ : ∃ x, ds[i]? = some x := ⟨_, List.getElem?_eq_getElem (by omega)⟩
    have h1 := hf a x (hq i a x hi hx)
    have h2 := this.2 x (List.mem_of_getElem? hx)
    omega
theorem small_mod {m : List UInt8 × List UInt8} {d : DataW H} (h : st2Q (fun s d => d = .lit (.string s) ∧ s.length ≤ maxLen) (fun s d => d = .lit (.string s) ∧ s.length ≤ maxLen) m d) : m.1.length + m.2.length ≤ Rows.uptoBulk d := by
  obtain ⟨d0, d1, rfl, q0, q1⟩ := h
  have := small_str q0
  have := small_str q1
  simp only [Rows.uptoBulk, Rows.uptoBulkAll]; omega
theorem small_line {m : (List UInt8 × List UInt8) × Int × List UInt8} {d : DataW H} (h : st3Q (st2Q (fun s d => d = .lit (.string s) ∧ s.length ≤ maxLen) (fun s d => d = .lit (.string s) ∧ s.length ≤ maxLen)) (fun (n : Int) d => d = .lit (.int .i64 n) ∧ (Lit.int .i64 n).wf = true) (fun s d => d = .lit (.string s) ∧ s.length ≤ maxLen) m d) : m.1.1.length + m.1.2.length + m.2.2.length ≤ Rows.uptoBulk d := by
  obtain ⟨d0, d1, d2, rfl, q0, q1, q2⟩ := h
  have := small_mod q0
  have := small_str q2
  simp only [Rows.uptoBulk, Rows.uptoBulkAll]; omega
end
end Go.Proofs.YtoofpdaplnjmdaaGreatDoor
end
section
/- The frame of SumfileMerges: from the evaluation to the given statement. -/
namespace Go.Proofs.YtoofpdaplnjmdaaGreatDoor.sumfileMerges
open Go Go.AI Go.ChangeShapes Go.WideShapes Go.ChangeAt Go.RowKit
set_option linter.unusedVariables false

theorem own : ownKnob Tryz.prog.godebug = none := by kernel_rfl
theorem mixed : Tryz.prog.follows .mixedOrders = true := by kernel_rfl
theorem laidOut : laidOutB Tryz.prog = true := by kernel_rfl

theorem walk (a0 : List ((List UInt8 × List UInt8) × Int × List UInt8)) (a1 : List ((List UInt8 × List UInt8) × Int × List UInt8)) (a2 : List UInt8 × List UInt8) (a3 : Int) (a4 : List (List UInt8 × List UInt8)) (v0 v1 v2 v3 v4 : Value) (W : World) (hl : Go.Proofs.Tryz.Ai.LaidAll W) (r0 : Rep W.heap.size gh0 W v0 (.sl .sh (a0.map fun m => .agg [.str m.1.1, .str m.1.2, .int .i64 m.2.1, .str m.2.2]))) (r1 : Rep W.heap.size gh0 W v1 (.sl .sh (a1.map fun m => .agg [.str m.1.1, .str m.1.2, .int .i64 m.2.1, .str m.2.2]))) (r2 : Rep W.heap.size gh0 W v2 (.agg [.str a2.1, .str a2.2])) (r3 : Rep W.heap.size gh0 W v3 (.int .i64 a3)) (r4 : Rep W.heap.size gh0 W v4 (.sl .sh (a4.map fun m => .agg [.str m.1, .str m.2])))
    (he : Go.Proofs.Tryz.Ai.ev 3 [.sl .sh (a0.map fun m => .agg [.str m.1.1, .str m.1.2, .int .i64 m.2.1, .str m.2.2]), .sl .sh (a1.map fun m => .agg [.str m.1.1, .str m.1.2, .int .i64 m.2.1, .str m.2.2]), .agg [.str a2.1, .str a2.2], .int .i64 a3, .sl .sh (a4.map fun m => .agg [.str m.1, .str m.2])] [] = some (.bool true, [])) :
    Calls Tryz.prog 3 #[v0, v1, v2, v3, v4] W fun e w' => e = .returned (.bool true) ∧ Below W.heap.size W w' :=
  Go.AI.top (s' := []) mixed rfl (Go.Proofs.Tryz.Ai.T_ok hl) (by rfl)
    (fun j c h => by
      match j, h with
      | 0, h => simp at h; subst h; exact ⟨r0, rfl, rfl⟩
      | 1, h => simp at h; subst h; exact ⟨r1, rfl, rfl⟩
      | 2, h => simp at h; subst h; exact ⟨r2, rfl, rfl⟩
      | 3, h => simp at h; subst h; exact ⟨r3, rfl, rfl⟩
      | 4, h => simp at h; subst h; exact ⟨r4, rfl, rfl⟩
      | j + 5, h => simp at h)
    he

/-- the table of powers, as the row lays it -/
theorem laid_of {W : World} (hL : laidMet Tryz.prog Rows.sumfileMergesUptoRow.laid W) : Go.Proofs.Tryz.Ai.Laid W :=
  tabIs_of_mem (g := 5) (t := 260) (e := 226) (n := 20) (by
    have : ("internal/strconv.uint64pow10", Rows.laid_internal_strconv_uint64pow10) ∈ Rows.sumfileMergesUptoRow.laid := by simp [Rows.sumfileMergesUptoRow]
    have e : (Rows.laid_internal_strconv_uint64pow10 : DataW Unit) = Lib.tabData .u64 Lib.pow10Tab := by kernel_rfl
    rw [e] at this; exact this) (by kernel_rfl) (by kernel_rfl) Tryz.underlying260 Tryz.underlying226 (by kernel_rfl) (by kernel_rfl) hL

/-- what a row lays, and what each world has -/
theorem all_of {W : World} (hL : laidMet Tryz.prog Rows.sumfileMergesUptoRow.laid W) (hsh : W.ShapedOpen Tryz.prog) : Go.Proofs.Tryz.Ai.LaidAll W where
  tab := laid_of hL
  max := Go.Proofs.Tryz.Ai.maxLen_of hsh
  esyn := Go.Proofs.Tryz.Ai.errAt_of (g := 3) (Go.Proofs.Tryz.Ai.laidMet_drop 5 hL) (by kernel_rfl) (by kernel_rfl)
  eran := Go.Proofs.Tryz.Ai.errAt_of (g := 4) (Go.Proofs.Tryz.Ai.laidMet_drop 4 hL) (by kernel_rfl) (by kernel_rfl)

theorem readable : ∀ t ∈ Tryz.f3.params.toList, Tryz.prog.readableRec t = true ∧ t < Tryz.prog.types.size := by
  rw [Tryz.params3]
  intro t ht
  simp only [List.mem_cons, List.mem_nil_iff, or_false] at ht
  rcases ht with rfl | rfl | rfl | rfl | rfl <;> exact ⟨by kernel_rfl, of_decide_eq_true (by kernel_rfl)⟩

set_option maxRecDepth 100000 in
theorem contract (H : Type) (enc : TypeId × Value → H) (W : World) (base : Nat) (args : Array Value) (ds gs : List (DataW H)) (before : List MemPlace)
    (hval : ∀ (j : Nat) t v, Tryz.f3.params[j]? = some t → args[j]? = some v → Value.okWide Tryz.prog W .any base t v)
    (hW : DataW.Whole enc Tryz.prog Tryz.f3.params.toList Rows.sumfileMergesSpec.vars false W args.toList ds gs before) (hcond : ∀ k, (Rows.OpenSpec.upto Rows.sumfileMergesSpec).cond = some k → k H (ds ++ gs) = true) (hl : Go.Proofs.Tryz.Ai.LaidAll W) :
    Calls Tryz.prog 3 args W fun e W' => ∃ v, e = .returned v ∧ Rows.sumfileMergesSpec.post enc Tryz.prog Tryz.f3 false true false false W args v W' := by
  have hW' := hW
  obtain ⟨p, q, hA0, hV, rfl, hfz, hnd⟩ := hW
  have hA : DataW.TrodAll enc Tryz.prog W 0 (fun _ => true) true Tryz.f3.params.toList args.toList ds p := hA0
  have hAk := hA
  rw [Tryz.params3] at hA hval
  obtain ⟨v0, vs0, d0, ds0, p0, q0, hargs0, rfl, rfl, h0, r0⟩ := trodAll_cons hA
  obtain ⟨v1, vs1, d1, ds1, p1, q1, hargs1, rfl, rfl, h1, r1⟩ := trodAll_cons r0
  obtain ⟨v2, vs2, d2, ds2, p2, q2, hargs2, rfl, rfl, h2, r2⟩ := trodAll_cons r1
  obtain ⟨v3, vs3, d3, ds3, p3, q3, hargs3, rfl, rfl, h3, r3⟩ := trodAll_cons r2
  obtain ⟨v4, vs4, d4, ds4, p4, q4, hargs4, rfl, rfl, h4, r4⟩ := trodAll_cons r3
  obtain ⟨e1, e2, e3⟩ := trodAll_nil r4
  obtain rfl : args = #[v0, v1, v2, v3, v4] := by cases args; simp_all
  subst e2 e3
  obtain ⟨rfl, rfl⟩ := trodVars_none hV
  obtain ⟨a0, Q0, R0, _⟩ := (Reads.slice (Reads.struct3 (Reads.struct2 (Reads.str Tryz.underlying9 (by kernel_rfl)) (Reads.str Tryz.underlying9 (by kernel_rfl)) Tryz.underlying24 (by rfl) (by kernel_rfl) (by kernel_rfl)) (Reads.int Tryz.underlying3 (by kernel_rfl)) (Reads.str Tryz.underlying9 (by kernel_rfl)) Tryz.underlying42 (by rfl) (by kernel_rfl) (by kernel_rfl) (by kernel_rfl)) Tryz.underlying22 (by kernel_rfl)).arg1 (enc := enc) (W := W) (fun _ => rfl) (by kernel_rfl) (hval 0 22 v0 rfl rfl) h0
  obtain ⟨a1, Q1, R1, _⟩ := (Reads.slice (Reads.struct3 (Reads.struct2 (Reads.str Tryz.underlying9 (by kernel_rfl)) (Reads.str Tryz.underlying9 (by kernel_rfl)) Tryz.underlying24 (by rfl) (by kernel_rfl) (by kernel_rfl)) (Reads.int Tryz.underlying3 (by kernel_rfl)) (Reads.str Tryz.underlying9 (by kernel_rfl)) Tryz.underlying42 (by rfl) (by kernel_rfl) (by kernel_rfl) (by kernel_rfl)) Tryz.underlying22 (by kernel_rfl)).arg1 (enc := enc) (W := W) (fun _ => rfl) (by kernel_rfl) (hval 1 22 v1 rfl rfl) h1
  obtain ⟨a2, Q2, R2, _⟩ := (Reads.struct2 (Reads.str Tryz.underlying9 (by kernel_rfl)) (Reads.str Tryz.underlying9 (by kernel_rfl)) Tryz.underlying24 (by rfl) (by kernel_rfl) (by kernel_rfl)).argS (enc := enc) (W := W) (fun _ => ⟨_, rfl⟩) Tryz.underlying24 (hval 2 24 v2 rfl rfl) h2
  obtain ⟨a3, Q3, R3, _⟩ := (Reads.int Tryz.underlying3 (by kernel_rfl)).arg1 (enc := enc) (W := W) (fun _ => rfl) (by kernel_rfl) (hval 3 3 v3 rfl rfl) h3
  obtain ⟨a4, Q4, R4, _⟩ := (Reads.slice (Reads.struct2 (Reads.str Tryz.underlying9 (by kernel_rfl)) (Reads.str Tryz.underlying9 (by kernel_rfl)) Tryz.underlying24 (by rfl) (by kernel_rfl) (by kernel_rfl)) Tryz.underlying25 (by kernel_rfl)).arg1 (enc := enc) (W := W) (fun _ => rfl) (by kernel_rfl) (hval 4 25 v4 rfl rfl) h4
  have hb : Rows.uptoBulkAll ([d0, d1, d2, d3, d4] ++ []) ≤ 1048576 := of_decide_eq_true (hcond _ rfl)
  simp only [List.append_nil, Rows.uptoBulkAll] at hb
  have s0 : a0.length ≤ 1048576 ∧ ∀ m ∈ a0, m.1.1.length ≤ 1048576 ∧ m.1.2.length ≤ 1048576 ∧ m.2.2.length ≤ 1048576 := by have := slq_small (f := fun m => m.1.1.length + m.1.2.length + m.2.2.length) Q0 (fun a x h => small_line h); exact ⟨by omega, fun s hs => by have := this.2 s hs; omega⟩
  have s1 : a1.length ≤ 1048576 ∧ ∀ m ∈ a1, m.1.1.length ≤ 1048576 ∧ m.1.2.length ≤ 1048576 ∧ m.2.2.length ≤ 1048576 := by have := slq_small (f := fun m => m.1.1.length + m.1.2.length + m.2.2.length) Q1 (fun a x h => small_line h); exact ⟨by omega, fun s hs => by have := this.2 s hs; omega⟩
  have s4 : a4.length ≤ 1048576 ∧ ∀ m ∈ a4, m.1.length ≤ 1048576 ∧ m.2.length ≤ 1048576 := by have := slq_small (f := fun m => m.1.length + m.2.length) Q4 (fun a x h => small_mod h); exact ⟨by omega, fun s hs => by have := this.2 s hs; omega⟩
  have hlt : ∀ x ∈ (p0 ++ p1 ++ p2 ++ p3 ++ p4 : List MemPlace), True := fun _ _ => trivial
  refine (walk a0 a1 a2 a3 a4 v0 v1 v2 v3 v4 W hl R0 R1 R2 R3 R4 (by have := Go.Proofs.Tryz.Ai.mergesLaw_eq a0 a1 a2 a3 a4 s0 s1 s4 []; exact this)).mono fun e W' ⟨he, bel⟩ => ?_
  subst he
  exact ⟨_, rfl, _, _, _, [], _, [], hW', trodAll_mk1 (shut_bool Tryz.underlying4 _), trodAll_keep laidOut bel readable hAk (fun x hx => by simpa using hW'.lt x (by simpa using hx)), rfl, bel.frame _, fun h => by cases h⟩

noncomputable def laidWorld (os : Os) : World := World.laidAll Tryz.prog os Rows.sumfileMergesUptoRow.laid
theorem laid_met (os : Os) : laidMet Tryz.prog Rows.sumfileMergesUptoRow.laid ((laidWorld os).forCall (fun _ _ => 0) ⟨#[], #[.slice none 0 0, .slice none 0 0, .agg #[.string ⟨#[]⟩, .string ⟨#[]⟩], .int .i64 0, .slice none 0 0], []⟩).memory :=
  laidMet_laidAll _ (by kernel_rfl) (by kernel_rfl)
theorem reads (os : Os) {H : Type} (enc : TypeId × Value → H) : ∃ places, DataW.whole enc Tryz.prog ((laidWorld os).forCall (fun _ _ => 0) ⟨#[], #[.slice none 0 0, .slice none 0 0, .agg #[.string ⟨#[]⟩, .string ⟨#[]⟩], .int .i64 0, .slice none 0 0], []⟩).memory Tryz.f3.params.toList Rows.sumfileMergesSpec.vars false (#[.slice none 0 0, .slice none 0 0, .agg #[.string ⟨#[]⟩, .string ⟨#[]⟩], .int .i64 0, .slice none 0 0] : Array Value).toList 8 = some ([.nil, .nil, .agg [.lit (.string []), .lit (.string [])], .lit (.int .i64 0), .nil], [], places) :=
  ⟨[], by kernel_rfl⟩
theorem witness (os : Os) {H : Type} (enc : TypeId × Value → H) : ∃ (w : World) (tape : Tape) (i : Input), w.os = os ∧ (w.forCall tape i).Shaped Tryz.checked.prog ∧ i.vars = [] ∧ Input.okWide Tryz.checked.prog (w.forCall tape i) .any w.heap.size 3 i ∧
    (Rows.OpenSpec.upto Rows.sumfileMergesSpec).preRow enc Tryz.checked.prog Tryz.f3 Rows.sumfileMergesUptoRow.domain false Rows.sumfileMergesUptoRow.laid (w.forCall tape i).memory i.args ∧ ({} : Assume).holds Tryz.checked.prog (lone (Frame.enter Tryz.checked.prog 3 i.args .normal) [] (w.forCall tape i)) := by
  obtain ⟨places, hx⟩ := reads os enc
  have hok : Input.okWideB Tryz.checked.prog ((laidWorld os).forCall (fun _ _ => 0) ⟨#[], #[.slice none 0 0, .slice none 0 0, .agg #[.string ⟨#[]⟩, .string ⟨#[]⟩], .int .i64 0, .slice none 0 0], []⟩) 3 ⟨#[], #[.slice none 0 0, .slice none 0 0, .agg #[.string ⟨#[]⟩, .string ⟨#[]⟩], .int .i64 0, .slice none 0 0], []⟩ = true := by kernel_rfl
  exact ⟨laidWorld os, fun _ _ => 0, ⟨#[], #[.slice none 0 0, .slice none 0 0, .agg #[.string ⟨#[]⟩, .string ⟨#[]⟩], .int .i64 0, .slice none 0 0], []⟩, World.laidAll_os _ _ _, World.shaped_of_ZipB (by kernel_rfl) (by kernel_rfl), (Input.okWide_of_okWideB (base := 0) hok).1, (Input.okWide_of_okWideB hok).2,
    OpenSpec.preRow_of_cond 8 hx (by kernel_rfl) (fun k hk => by have e : k = Rows.uptoSmall := (Option.some.inj (show some Rows.uptoSmall = some k from hk)).symm; rw [e]; simp [Rows.uptoSmall, Rows.uptoBulkAll, Rows.uptoBulk]) (by kernel_rfl) (laid_met os), by
    simp only [Assume.holds]
    exact ⟨by simp, by simp, fun _ => Modest.zero, by simp, by simp⟩⟩

set_option maxRecDepth 100000 in
theorem lifted (os : Os) (started : os.Started) (H : Type) (enc : TypeId × Value → H) (F : Stop.Interp) :
    ReturnsInHanded {} Tryz.checked os 3 .any ((Rows.OpenSpec.upto Rows.sumfileMergesSpec).preRow enc Tryz.prog Tryz.f3 Rows.sumfileMergesUptoRow.domain false Rows.sumfileMergesUptoRow.laid) (((Rows.OpenSpec.upto Rows.sumfileMergesSpec).at F).post enc Tryz.prog Tryz.f3 false true false false) := by
  refine returnsInHanded_of_row (C := Tryz.checked) (s := (Rows.OpenSpec.upto Rows.sumfileMergesSpec)) own started (by kernel_rfl) Tryz.func3 (witness os enc) ?_
  intro W base args ds gs before hval hW _ hcond _ hL hsh _
  exact contract H enc W base args ds gs before hval hW hcond (all_of (by rw [← MakeChecks.laidMetH_plain _ _ _ (by kernel_rfl)]; exact hL) hsh)

theorem said : Rows.SumfileMergesUptoSaid :=
  OpenClaim.holds_of_cond 3 Tryz.f3 rfl rfl rfl rfl rfl rfl rfl ⟨rfl, rfl, rfl, rfl, rfl⟩ rfl rfl rfl rfl rfl (by kernel_rfl) Tryz.func3 (by kernel_rfl)
    (of_decide_eq_true (by kernel_rfl)) (by unfold Func.isWrapper; first | (rw [if_pos (by decide +kernel)]; kernel_rfl) | (rw [if_neg (by decide +kernel)]; exact ⟨rfl, rfl⟩))
    (fun os started H enc _ F => by rw [OpenClaim.pre_eq_preRow]; exact lifted os started H enc F)

theorem plain (f : FuncId) (fn : Func) (hf : Tryz.pinned.checked.prog.funcNamed "mews/mewslaw5.SumfileMerges" = some f) (hfn : Tryz.pinned.checked.prog.funcs[f]? = some fn) :
    true = Tryz.pinned.checked.prog.looks [] ∧ ∀ (j : Nat) t, fn.params[j]? = some t → Tryz.pinned.checked.prog.wantsStandIn t = false := by
  obtain rfl : f = 3 := Option.some.inj ((show Tryz.prog.funcNamed "mews/mewslaw5.SumfileMerges" = some 3 by kernel_rfl).symm.trans hf) |>.symm
  obtain rfl : fn = Tryz.f3 := (Option.some.inj (Tryz.func3.symm.trans hfn)).symm
  refine ⟨by kernel_rfl, fun j t ht => ?_⟩
  have hm : t ∈ Tryz.f3.params.toList := Array.mem_toList_iff.2 (Array.mem_of_getElem? ht)
  rw [Tryz.params3] at hm
  simp only [List.mem_cons, List.mem_nil_iff, or_false] at hm
  rcases hm with rfl | rfl | rfl | rfl | rfl
  · exact (show Tryz.prog.wantsStandIn 22 = false by kernel_rfl)
  · exact (show Tryz.prog.wantsStandIn 22 = false by kernel_rfl)
  · exact (show Tryz.prog.wantsStandIn 24 = false by kernel_rfl)
  · exact (show Tryz.prog.wantsStandIn 3 = false by kernel_rfl)
  · exact (show Tryz.prog.wantsStandIn 25 = false by kernel_rfl)

/-- the card -/
theorem card : Rows.SumfileMergesUptoCardSaid :=
  Claim7.holds_tied_plain_at .later [] _ _ _ _ said (fun _ h => by cases h) (by kernel_rfl) (fun _ h => by cases h) sumfileMergesUpto_row_tie rfl ⟨rfl, rfl⟩ (by kernel_rfl) rfl plain (by kernel_rfl)
end Go.Proofs.YtoofpdaplnjmdaaGreatDoor.sumfileMerges
end
