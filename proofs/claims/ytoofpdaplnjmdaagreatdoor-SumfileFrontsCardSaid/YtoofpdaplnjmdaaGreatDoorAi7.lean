/- Part 7 of a proof: a Go function is evaluated on abstract values (texts LFronts .. FFronts); no conditions beyond those of each theorem. -/
import Derived.Test.YtoofpdaplnjmdaaGreatDoorAi6
import Derived.Test.YtoofpdaplnjmdaaGreatDoorCards
import Derived.Test.YtoofpdaplnjmdaaGreatDoorTie
import Derived.WalkKit
import Derived.ProofKit
import Derived.OpenShut
import Derived.Below
import Derived.ChangeOld
import Derived.Deep.DeepHandedRow
import Derived.Lib.LaidTab
import Derived.Lay
import Derived.MakeChecks
set_option linter.all false
set_option linter.unusedVariables false
set_option linter.unusedSimpArgs false
set_option linter.unnecessarySimpa false
section
/- SumfileFronts: the evaluation. -/
namespace Go.Proofs.Tryz.Ai
open Go Go.AI Go.Proofs Go.B64
set_option maxHeartbeats 8000000
set_option maxRecDepth 4000
set_option linter.unusedVariables false

/-- what matches a path matches a longer one -/
theorem match_longer {path more p : List UInt8} (h : matchP (splitB 47 path) p = true) : matchP (splitB 47 (path ++ 47 :: more)) p = true := by
  unfold matchP at h ⊢
  rw [splitB_cat]
  simp only [Bool.and_eq_true, decide_eq_true_eq] at h ⊢
  refine ⟨by rw [List.length_append]; omega, ?_⟩
  rw [List.take_append_of_le_length h.1]
  exact h.2
def plainB (x : List UInt8) : Bool := !(x == []) && x.all fun c => decide (c ≠ 42) && decide (c ≠ 63)
def plN (x : List UInt8) (k : Nat) : Bool := !(x == []) && (x.take k).all fun c => decide (c ≠ 42) && decide (c ≠ 63)
theorem plain_match {path p : List UInt8} (h : plainB p = true) : matchP (splitB 47 path) p = ((path == p) || (p ++ [47]).isPrefixOf path) := by
  unfold plainB at h
  simp only [Bool.and_eq_true, List.all_eq_true, decide_eq_true_eq] at h
  have hg : ∀ s, globB p s = true ↔ s = p := fun s => by rw [globB_iff, MG_plain h.2]
  have key : matchP (splitB 47 path) p = true ↔ splitB 47 p <+: splitB 47 path := by
    unfold matchP
    rw [Bool.and_eq_true, decide_eq_true_eq, hg]
    constructor
    · rintro ⟨h1, h2⟩
      have hne : (splitB 47 path).take (splitB 47 p).length ≠ [] := by
        intro e
        have := congrArg List.length e
        have h0 := List.length_pos_iff.2 (splitB_ne 47 p)
        rw [List.length_take, List.length_nil] at this; omega
      have := split_join hne (fun x hx => splitB_mem (List.mem_of_mem_take hx))
      rw [h2] at this
      rw [this]
      exact List.take_prefix _ _
    · rintro ⟨t, ht⟩
      rw [← ht]
      refine ⟨by simp, ?_⟩
      rw [List.take_left', join_split]
      rfl
  rw [Bool.eq_iff_iff, key, Bool.or_eq_true, beq_iff_eq, List.isPrefixOf_iff_prefix]
  constructor
  · rintro ⟨t, ht⟩
    cases t with
    | nil =>
      left
      rw [List.append_nil] at ht
      rw [← join_split 47 path, ← ht, join_split]
    | cons a t =>
      right
      refine ⟨joinB 47 (a :: t), ?_⟩
      have e : splitB 47 (p ++ 47 :: joinB 47 (a :: t)) = splitB 47 path := by
        rw [splitB_cat, split_join (by simp) (fun x hx => splitB_mem (c := 47) (l := path) (by rw [← ht]; exact List.mem_append_right _ hx)), ht]
      rw [← join_split 47 path, ← e, join_split]; simp
  · rintro (rfl | ⟨t, rfl⟩)
    · exact List.prefix_refl _
    · rw [List.append_assoc]
      show splitB 47 p <+: splitB 47 (p ++ 47 :: t)
      rw [splitB_cat]
      exact List.prefix_append _ _
theorem plain_self {p : List UInt8} (h : plainB p = true) : globB p p = true := by
  unfold plainB at h
  simp only [Bool.and_eq_true, List.all_eq_true, decide_eq_true_eq] at h
  rw [globB_iff, MG_plain h.2]
theorem frontsLaw0 (l : List (List UInt8)) (path more : List UInt8) (σ : List (List AV)) : ev 6 [.sl .sh (l.map .str), .str path, .str more] σ = some (.bool true, σ) := by
  have hF := first_eq
  refine EV_post rfl Tryz.func6 rfl (by simp [Tryz.ntmps6]) (by kernel_rfl) (by kernel_rfl) ?_
  by_cases c1 : 30 < l.length
  · simp (maxSteps := 4000000) [List.getElem?_cons_zero, List.getElem?_cons_succ, hF, c1, Tryz.results6]
  by_cases c2 : 200 < path.length
  · simp (maxSteps := 4000000) [List.getElem?_cons_zero, List.getElem?_cons_succ, hF, c1, c2, Tryz.results6]
  by_cases c3 : 200 < more.length
  · simp (maxSteps := 4000000) [List.getElem?_cons_zero, List.getElem?_cons_succ, hF, c1, c2, c3, Tryz.results6]
  by_cases c4 : path = []
  · have c4' : (path == []) = true := by simpa using c4
    simp (maxSteps := 4000000) [List.getElem?_cons_zero, List.getElem?_cons_succ, hF, c1, c2, c3, c4', Tryz.results6]
  have c4' : (path == []) = false := by simpa using c4
  simp (maxSteps := 4000000) [List.getElem?_cons_zero, List.getElem?_cons_succ, hF, c1, c2, c3, c4']
  refine Post_loop (I := fun q : Bool × Nat => ⟨[(0, .sl .sh (l.map .str)), (1, .str path), (2, .str more), (8, .bool q.1), (9, .int .i64 q.2)], [], σ⟩)
    (Pr := fun q => q.2 ≤ l.length ∧ (∀ p ∈ l.take q.2, p.length ≤ 200) ∧ q.1 = (l.take q.2).any (matchP (splitB 47 path))) (μ := fun q => l.length - q.2) (a := (false, 0)) (by simp) (by simp) ?_
  rintro ⟨one, i⟩ ⟨h1, h2, h3⟩
  simp only at h1 h2 h3 ⊢
  have w1 : IntKind.i64.wrap ((i : Int) + 1) = (i : Int) + 1 := wrap64 (by omega)
  by_cases hi : i < l.length
  · obtain ⟨x, hx⟩ : ∃ x, l[i]? = some x := ⟨_, List.getElem?_eq_getElem hi⟩
    by_cases c5 : 200 < x.length
    · simp (maxSteps := 4000000) [List.getElem?_cons_zero, List.getElem?_cons_succ, -getElem?_pos, hi, hx, c5, Tryz.results6]
    have htk : l.take (i + 1) = l.take i ++ [x] := by rw [List.take_add_one, hx]; rfl
    have hM1 := Match_eq [x] (by simp) (by simp; omega) path (by omega)
    have hM2 := Match_eq [x] (by simp) (by simp; omega) (path ++ 47 :: more) (by simp; omega)
    have hlong := match_longer (path := path) (more := more) (p := x)
    simp only [List.map_cons, List.map_nil, List.any_cons, List.any_nil, Bool.or_false] at hM1 hM2
    have hpm := plain_match (path := path) (p := x)
    obtain ⟨m, hm⟩ : ∃ m, matchP (splitB 47 path) x = m := ⟨_, rfl⟩
    rw [hm] at hM1 hlong hpm
    have hone : (one || m) = (l.take (i + 1)).any (matchP (splitB 47 path)) := by rw [htk, List.any_append, ← h3]; simp [hm]
    have htk2 : ∀ p ∈ l.take (i + 1), p.length ≤ 200 := by
      intro p hp
      rw [htk] at hp
      rcases List.mem_append.1 hp with hp | hp
      · exact h2 p hp
      · simp at hp; subst hp; omega
    have hps := plain_self (p := x)
    have hG := Glob_eq x x (by omega) (by omega)
    have hB := Begins_eq path (x ++ [47]) (by omega) (by simp; omega)
    have hq1 : path.length + 1 ≤ most := by unfold most; omega
    have hq2 : path.length + 1 + more.length ≤ most := by unfold most; omega
    have hq3 : x.length + 1 ≤ most := by unfold most; omega
    have w2 : ∀ k : Nat, k ≤ 200 → IntKind.i64.wrap ((k : Int) + 1) = (k : Int) + 1 := fun k hk => wrap64 (by omega)
    cases m with
    | true =>
      rw [hlong rfl] at hM2
      cases one with
      | true =>
        have hone2 : (true || true) = true := rfl
        simp (maxSteps := 4000000) [List.getElem?_cons_zero, List.getElem?_cons_succ, -getElem?_pos, hi, hx, c5, hM1, hM2, hq1, hq2]
        refine Post_loop (I := fun q : Bool × Nat => ⟨[(0, .sl .sh (l.map .str)), (1, .str path), (2, .str more), (8, .bool true), (9, .int .i64 i), (10, .bool true), (11, .bool q.1), (12, .int .i64 q.2)], [], σ⟩) (Pr := fun q => q.2 ≤ x.length ∧ q.1 = plN x q.2) (μ := fun q => x.length - q.2) (a := (!(x == []), 0)) (by simp) (by simp [plN]) ?_
        rintro ⟨pl, k⟩ ⟨hk, hpl⟩
        simp only at hk hpl ⊢
        have w3 := w2 k (by omega)
        by_cases hkl : k < x.length
        · obtain ⟨c, hc⟩ : ∃ c, x[k]? = some c := ⟨_, List.getElem?_eq_getElem hkl⟩
          have hpl2 : plN x (k + 1) = (pl && (decide (c ≠ 42) && decide (c ≠ 63))) := by
            unfold plN at hpl ⊢
            rw [List.take_add_one, hc, List.all_append, hpl]; simp [Bool.and_assoc]
          cases pl with
          | false =>
            simp (maxSteps := 4000000) [List.getElem?_cons_zero, List.getElem?_cons_succ, -getElem?_pos, -Prod.exists, hi, hx, hkl, w3]
            exact ⟨(false, k + 1), ⟨by simp; omega, by show false = plN x (k + 1); rw [hpl2]; rfl⟩, by simp; omega, by simp⟩
          | true =>
            by_cases h42 : c = 42
            · subst h42
              simp (maxSteps := 4000000) [List.getElem?_cons_zero, List.getElem?_cons_succ, -getElem?_pos, -Prod.exists, hi, hx, hkl, hc, w3]
              exact ⟨(false, k + 1), ⟨by simp; omega, by show false = plN x (k + 1); rw [hpl2]; rfl⟩, by simp; omega, by simp⟩
            · by_cases h63 : c = 63
              · subst h63
                simp (maxSteps := 4000000) [List.getElem?_cons_zero, List.getElem?_cons_succ, -getElem?_pos, -Prod.exists, hi, hx, hkl, hc, w3]
                exact ⟨(false, k + 1), ⟨by simp; omega, by show false = plN x (k + 1); rw [hpl2]; rfl⟩, by simp; omega, by simp⟩
              · simp (maxSteps := 4000000) [List.getElem?_cons_zero, List.getElem?_cons_succ, -getElem?_pos, -Prod.exists, hi, hx, hkl, hc, h42, h63, w3]
                exact ⟨(true, k + 1), ⟨by simp; omega, by show true = plN x (k + 1); rw [hpl2]; simp [h42, h63]⟩, by simp; omega, by simp⟩
        · unfold plN at hpl
          rw [List.take_of_length_le (by omega)] at hpl
          have hpl : pl = plainB x := hpl
          have hfin : (l.take (i + 1)).any (matchP (splitB 47 path)) = true := by rw [← hone, hone2]
          cases hb1 : (path == x) with
          | true =>
            cases pl with
            | true =>
              have hmt := hpm hpl.symm
              rw [hb1] at hmt
              have hgx := hps hpl.symm
              rw [hgx] at hG
              first
              | (exfalso; simp at hmt; done)
              | (simp (maxSteps := 4000000) [List.getElem?_cons_zero, List.getElem?_cons_succ, -getElem?_pos, -Prod.exists, -regionA_true, -beq_iff_eq, hi, hx, hkl, hb1]
                 refine Post_bndD [] _ (by rfl) (by simp (maxSteps := 4000000) [List.getElem?_cons_zero, List.getElem?_cons_succ, ]; exact rfl) ?_
                 repeat (first
                   | refine PostD_go _ (by rfl) (by rfl) (by simp (maxSteps := 4000000) [List.getElem?_cons_zero, List.getElem?_cons_succ, -getElem?_pos, hi, hx, hG]; exact rfl) (by first | exact .inl rfl | exact .inr rfl) (by rfl) ?_
                   | refine PostD_no1 _ (by rfl) (by rfl) (by simp (maxSteps := 4000000) [List.getElem?_cons_zero, List.getElem?_cons_succ, ]; exact rfl) ?_)
                 refine PostD_end ?_
                 simp (maxSteps := 4000000) [List.getElem?_cons_zero, List.getElem?_cons_succ, -Prod.exists, w1]
                 exact ⟨(true, i + 1), ⟨by simp; omega, htk2, hfin.symm⟩, by simp; omega, by simp⟩)
            | false =>
              cases hgx : globB x x with
              | true =>
                rw [hgx] at hG
                simp (maxSteps := 4000000) [List.getElem?_cons_zero, List.getElem?_cons_succ, -getElem?_pos, -Prod.exists, -regionA_true, -beq_iff_eq, hi, hx, hkl, hb1]
                refine Post_bndD [] _ (by rfl) (by simp (maxSteps := 4000000) [List.getElem?_cons_zero, List.getElem?_cons_succ, ]; exact rfl) ?_
                repeat (first
                  | refine PostD_go _ (by rfl) (by rfl) (by simp (maxSteps := 4000000) [List.getElem?_cons_zero, List.getElem?_cons_succ, -getElem?_pos, hi, hx, hG]; exact rfl) (by first | exact .inl rfl | exact .inr rfl) (by rfl) ?_
                  | refine PostD_no1 _ (by rfl) (by rfl) (by simp (maxSteps := 4000000) [List.getElem?_cons_zero, List.getElem?_cons_succ, ]; exact rfl) ?_)
                refine PostD_end ?_
                simp (maxSteps := 4000000) [List.getElem?_cons_zero, List.getElem?_cons_succ, -Prod.exists, w1]
                exact ⟨(true, i + 1), ⟨by simp; omega, htk2, hfin.symm⟩, by simp; omega, by simp⟩
              | false =>
                rw [hgx] at hG
                simp (maxSteps := 4000000) [List.getElem?_cons_zero, List.getElem?_cons_succ, -getElem?_pos, -Prod.exists, -regionA_true, -beq_iff_eq, hi, hx, hkl, hb1]
                refine Post_bndD [] _ (by rfl) (by simp (maxSteps := 4000000) [List.getElem?_cons_zero, List.getElem?_cons_succ, ]; exact rfl) ?_
                repeat (first
                  | refine PostD_go _ (by rfl) (by rfl) (by simp (maxSteps := 4000000) [List.getElem?_cons_zero, List.getElem?_cons_succ, -getElem?_pos, hi, hx, hG]; exact rfl) (by first | exact .inl rfl | exact .inr rfl) (by rfl) ?_
                  | refine PostD_no1 _ (by rfl) (by rfl) (by simp (maxSteps := 4000000) [List.getElem?_cons_zero, List.getElem?_cons_succ, ]; exact rfl) ?_)
                refine PostD_end ?_
                simp (maxSteps := 4000000) [List.getElem?_cons_zero, List.getElem?_cons_succ, -Prod.exists, w1]
                exact ⟨(true, i + 1), ⟨by simp; omega, htk2, hfin.symm⟩, by simp; omega, by simp⟩
          | false =>
            obtain ⟨bg, hbg⟩ : ∃ b, (x ++ [47]).isPrefixOf path = b := ⟨_, rfl⟩
            rw [hbg] at hB hpm
            cases pl with
            | true =>
              have hmt := hpm hpl.symm
              rw [hb1] at hmt
              simp only [Bool.false_or] at hmt
              rw [← hmt] at hB
              have hgx := hps hpl.symm
              rw [hgx] at hG
              simp (maxSteps := 4000000) [List.getElem?_cons_zero, List.getElem?_cons_succ, -getElem?_pos, -Prod.exists, -regionA_true, -beq_eq_false_iff_ne, hi, hx, hkl, hb1, hq3, hB]
              refine Post_bndD [] _ (by rfl) (by simp (maxSteps := 4000000) [List.getElem?_cons_zero, List.getElem?_cons_succ, ]; exact rfl) ?_
              repeat (first
                | refine PostD_go _ (by rfl) (by rfl) (by simp (maxSteps := 4000000) [List.getElem?_cons_zero, List.getElem?_cons_succ, -getElem?_pos, hi, hx, hG]; exact rfl) (by first | exact .inl rfl | exact .inr rfl) (by rfl) ?_
                | refine PostD_no1 _ (by rfl) (by rfl) (by simp (maxSteps := 4000000) [List.getElem?_cons_zero, List.getElem?_cons_succ, ]; exact rfl) ?_)
              refine PostD_end ?_
              simp (maxSteps := 4000000) [List.getElem?_cons_zero, List.getElem?_cons_succ, -Prod.exists, w1]
              exact ⟨(true, i + 1), ⟨by simp; omega, htk2, hfin.symm⟩, by simp; omega, by simp⟩
            | false =>
              cases hgx : globB x x with
              | true =>
                rw [hgx] at hG
                simp (maxSteps := 4000000) [List.getElem?_cons_zero, List.getElem?_cons_succ, -getElem?_pos, -Prod.exists, -regionA_true, -beq_eq_false_iff_ne, hi, hx, hkl, hb1, hq3, hB]
                refine Post_bndD [] _ (by rfl) (by simp (maxSteps := 4000000) [List.getElem?_cons_zero, List.getElem?_cons_succ, ]; exact rfl) ?_
                repeat (first
                  | refine PostD_go _ (by rfl) (by rfl) (by simp (maxSteps := 4000000) [List.getElem?_cons_zero, List.getElem?_cons_succ, -getElem?_pos, hi, hx, hG]; exact rfl) (by first | exact .inl rfl | exact .inr rfl) (by rfl) ?_
                  | refine PostD_no1 _ (by rfl) (by rfl) (by simp (maxSteps := 4000000) [List.getElem?_cons_zero, List.getElem?_cons_succ, ]; exact rfl) ?_)
                refine PostD_end ?_
                simp (maxSteps := 4000000) [List.getElem?_cons_zero, List.getElem?_cons_succ, -Prod.exists, w1]
                exact ⟨(true, i + 1), ⟨by simp; omega, htk2, hfin.symm⟩, by simp; omega, by simp⟩
              | false =>
                rw [hgx] at hG
                simp (maxSteps := 4000000) [List.getElem?_cons_zero, List.getElem?_cons_succ, -getElem?_pos, -Prod.exists, -regionA_true, -beq_eq_false_iff_ne, hi, hx, hkl, hb1, hq3, hB]
                refine Post_bndD [] _ (by rfl) (by simp (maxSteps := 4000000) [List.getElem?_cons_zero, List.getElem?_cons_succ, ]; exact rfl) ?_
                repeat (first
                  | refine PostD_go _ (by rfl) (by rfl) (by simp (maxSteps := 4000000) [List.getElem?_cons_zero, List.getElem?_cons_succ, -getElem?_pos, hi, hx, hG]; exact rfl) (by first | exact .inl rfl | exact .inr rfl) (by rfl) ?_
                  | refine PostD_no1 _ (by rfl) (by rfl) (by simp (maxSteps := 4000000) [List.getElem?_cons_zero, List.getElem?_cons_succ, ]; exact rfl) ?_)
                refine PostD_end ?_
                simp (maxSteps := 4000000) [List.getElem?_cons_zero, List.getElem?_cons_succ, -Prod.exists, w1]
                exact ⟨(true, i + 1), ⟨by simp; omega, htk2, hfin.symm⟩, by simp; omega, by simp⟩
      | false =>
        have hone2 : (false || true) = true := rfl
        simp (maxSteps := 4000000) [List.getElem?_cons_zero, List.getElem?_cons_succ, -getElem?_pos, hi, hx, c5, hM1, hM2, hq1, hq2]
        refine Post_loop (I := fun q : Bool × Nat => ⟨[(0, .sl .sh (l.map .str)), (1, .str path), (2, .str more), (8, .bool true), (9, .int .i64 i), (10, .bool true), (11, .bool q.1), (12, .int .i64 q.2)], [], σ⟩) (Pr := fun q => q.2 ≤ x.length ∧ q.1 = plN x q.2) (μ := fun q => x.length - q.2) (a := (!(x == []), 0)) (by simp) (by simp [plN]) ?_
        rintro ⟨pl, k⟩ ⟨hk, hpl⟩
        simp only at hk hpl ⊢
        have w3 := w2 k (by omega)
        by_cases hkl : k < x.length
        · obtain ⟨c, hc⟩ : ∃ c, x[k]? = some c := ⟨_, List.getElem?_eq_getElem hkl⟩
          have hpl2 : plN x (k + 1) = (pl && (decide (c ≠ 42) && decide (c ≠ 63))) := by
            unfold plN at hpl ⊢
            rw [List.take_add_one, hc, List.all_append, hpl]; simp [Bool.and_assoc]
          cases pl with
          | false =>
            simp (maxSteps := 4000000) [List.getElem?_cons_zero, List.getElem?_cons_succ, -getElem?_pos, -Prod.exists, hi, hx, hkl, w3]
            exact ⟨(false, k + 1), ⟨by simp; omega, by show false = plN x (k + 1); rw [hpl2]; rfl⟩, by simp; omega, by simp⟩
          | true =>
            by_cases h42 : c = 42
            · subst h42
              simp (maxSteps := 4000000) [List.getElem?_cons_zero, List.getElem?_cons_succ, -getElem?_pos, -Prod.exists, hi, hx, hkl, hc, w3]
              exact ⟨(false, k + 1), ⟨by simp; omega, by show false = plN x (k + 1); rw [hpl2]; rfl⟩, by simp; omega, by simp⟩
            · by_cases h63 : c = 63
              · subst h63
                simp (maxSteps := 4000000) [List.getElem?_cons_zero, List.getElem?_cons_succ, -getElem?_pos, -Prod.exists, hi, hx, hkl, hc, w3]
                exact ⟨(false, k + 1), ⟨by simp; omega, by show false = plN x (k + 1); rw [hpl2]; rfl⟩, by simp; omega, by simp⟩
              · simp (maxSteps := 4000000) [List.getElem?_cons_zero, List.getElem?_cons_succ, -getElem?_pos, -Prod.exists, hi, hx, hkl, hc, h42, h63, w3]
                exact ⟨(true, k + 1), ⟨by simp; omega, by show true = plN x (k + 1); rw [hpl2]; simp [h42, h63]⟩, by simp; omega, by simp⟩
        · unfold plN at hpl
          rw [List.take_of_length_le (by omega)] at hpl
          have hpl : pl = plainB x := hpl
          have hfin : (l.take (i + 1)).any (matchP (splitB 47 path)) = true := by rw [← hone, hone2]
          cases hb1 : (path == x) with
          | true =>
            cases pl with
            | true =>
              have hmt := hpm hpl.symm
              rw [hb1] at hmt
              have hgx := hps hpl.symm
              rw [hgx] at hG
              first
              | (exfalso; simp at hmt; done)
              | (simp (maxSteps := 4000000) [List.getElem?_cons_zero, List.getElem?_cons_succ, -getElem?_pos, -Prod.exists, -regionA_true, -beq_iff_eq, hi, hx, hkl, hb1]
                 refine Post_bndD [] _ (by rfl) (by simp (maxSteps := 4000000) [List.getElem?_cons_zero, List.getElem?_cons_succ, ]; exact rfl) ?_
                 repeat (first
                   | refine PostD_go _ (by rfl) (by rfl) (by simp (maxSteps := 4000000) [List.getElem?_cons_zero, List.getElem?_cons_succ, -getElem?_pos, hi, hx, hG]; exact rfl) (by first | exact .inl rfl | exact .inr rfl) (by rfl) ?_
                   | refine PostD_no1 _ (by rfl) (by rfl) (by simp (maxSteps := 4000000) [List.getElem?_cons_zero, List.getElem?_cons_succ, ]; exact rfl) ?_)
                 refine PostD_end ?_
                 simp (maxSteps := 4000000) [List.getElem?_cons_zero, List.getElem?_cons_succ, -Prod.exists, w1]
                 exact ⟨(true, i + 1), ⟨by simp; omega, htk2, hfin.symm⟩, by simp; omega, by simp⟩)
            | false =>
              cases hgx : globB x x with
              | true =>
                rw [hgx] at hG
                simp (maxSteps := 4000000) [List.getElem?_cons_zero, List.getElem?_cons_succ, -getElem?_pos, -Prod.exists, -regionA_true, -beq_iff_eq, hi, hx, hkl, hb1]
                refine Post_bndD [] _ (by rfl) (by simp (maxSteps := 4000000) [List.getElem?_cons_zero, List.getElem?_cons_succ, ]; exact rfl) ?_
                repeat (first
                  | refine PostD_go _ (by rfl) (by rfl) (by simp (maxSteps := 4000000) [List.getElem?_cons_zero, List.getElem?_cons_succ, -getElem?_pos, hi, hx, hG]; exact rfl) (by first | exact .inl rfl | exact .inr rfl) (by rfl) ?_
                  | refine PostD_no1 _ (by rfl) (by rfl) (by simp (maxSteps := 4000000) [List.getElem?_cons_zero, List.getElem?_cons_succ, ]; exact rfl) ?_)
                refine PostD_end ?_
                simp (maxSteps := 4000000) [List.getElem?_cons_zero, List.getElem?_cons_succ, -Prod.exists, w1]
                exact ⟨(true, i + 1), ⟨by simp; omega, htk2, hfin.symm⟩, by simp; omega, by simp⟩
              | false =>
                rw [hgx] at hG
                simp (maxSteps := 4000000) [List.getElem?_cons_zero, List.getElem?_cons_succ, -getElem?_pos, -Prod.exists, -regionA_true, -beq_iff_eq, hi, hx, hkl, hb1]
                refine Post_bndD [] _ (by rfl) (by simp (maxSteps := 4000000) [List.getElem?_cons_zero, List.getElem?_cons_succ, ]; exact rfl) ?_
                repeat (first
                  | refine PostD_go _ (by rfl) (by rfl) (by simp (maxSteps := 4000000) [List.getElem?_cons_zero, List.getElem?_cons_succ, -getElem?_pos, hi, hx, hG]; exact rfl) (by first | exact .inl rfl | exact .inr rfl) (by rfl) ?_
                  | refine PostD_no1 _ (by rfl) (by rfl) (by simp (maxSteps := 4000000) [List.getElem?_cons_zero, List.getElem?_cons_succ, ]; exact rfl) ?_)
                refine PostD_end ?_
                simp (maxSteps := 4000000) [List.getElem?_cons_zero, List.getElem?_cons_succ, -Prod.exists, w1]
                exact ⟨(true, i + 1), ⟨by simp; omega, htk2, hfin.symm⟩, by simp; omega, by simp⟩
          | false =>
            obtain ⟨bg, hbg⟩ : ∃ b, (x ++ [47]).isPrefixOf path = b := ⟨_, rfl⟩
            rw [hbg] at hB hpm
            cases pl with
            | true =>
              have hmt := hpm hpl.symm
              rw [hb1] at hmt
              simp only [Bool.false_or] at hmt
              rw [← hmt] at hB
              have hgx := hps hpl.symm
              rw [hgx] at hG
              simp (maxSteps := 4000000) [List.getElem?_cons_zero, List.getElem?_cons_succ, -getElem?_pos, -Prod.exists, -regionA_true, -beq_eq_false_iff_ne, hi, hx, hkl, hb1, hq3, hB]
              refine Post_bndD [] _ (by rfl) (by simp (maxSteps := 4000000) [List.getElem?_cons_zero, List.getElem?_cons_succ, ]; exact rfl) ?_
              repeat (first
                | refine PostD_go _ (by rfl) (by rfl) (by simp (maxSteps := 4000000) [List.getElem?_cons_zero, List.getElem?_cons_succ, -getElem?_pos, hi, hx, hG]; exact rfl) (by first | exact .inl rfl | exact .inr rfl) (by rfl) ?_
                | refine PostD_no1 _ (by rfl) (by rfl) (by simp (maxSteps := 4000000) [List.getElem?_cons_zero, List.getElem?_cons_succ, ]; exact rfl) ?_)
              refine PostD_end ?_
              simp (maxSteps := 4000000) [List.getElem?_cons_zero, List.getElem?_cons_succ, -Prod.exists, w1]
              exact ⟨(true, i + 1), ⟨by simp; omega, htk2, hfin.symm⟩, by simp; omega, by simp⟩
            | false =>
              cases hgx : globB x x with
              | true =>
                rw [hgx] at hG
                simp (maxSteps := 4000000) [List.getElem?_cons_zero, List.getElem?_cons_succ, -getElem?_pos, -Prod.exists, -regionA_true, -beq_eq_false_iff_ne, hi, hx, hkl, hb1, hq3, hB]
                refine Post_bndD [] _ (by rfl) (by simp (maxSteps := 4000000) [List.getElem?_cons_zero, List.getElem?_cons_succ, ]; exact rfl) ?_
                repeat (first
                  | refine PostD_go _ (by rfl) (by rfl) (by simp (maxSteps := 4000000) [List.getElem?_cons_zero, List.getElem?_cons_succ, -getElem?_pos, hi, hx, hG]; exact rfl) (by first | exact .inl rfl | exact .inr rfl) (by rfl) ?_
                  | refine PostD_no1 _ (by rfl) (by rfl) (by simp (maxSteps := 4000000) [List.getElem?_cons_zero, List.getElem?_cons_succ, ]; exact rfl) ?_)
                refine PostD_end ?_
                simp (maxSteps := 4000000) [List.getElem?_cons_zero, List.getElem?_cons_succ, -Prod.exists, w1]
                exact ⟨(true, i + 1), ⟨by simp; omega, htk2, hfin.symm⟩, by simp; omega, by simp⟩
              | false =>
                rw [hgx] at hG
                simp (maxSteps := 4000000) [List.getElem?_cons_zero, List.getElem?_cons_succ, -getElem?_pos, -Prod.exists, -regionA_true, -beq_eq_false_iff_ne, hi, hx, hkl, hb1, hq3, hB]
                refine Post_bndD [] _ (by rfl) (by simp (maxSteps := 4000000) [List.getElem?_cons_zero, List.getElem?_cons_succ, ]; exact rfl) ?_
                repeat (first
                  | refine PostD_go _ (by rfl) (by rfl) (by simp (maxSteps := 4000000) [List.getElem?_cons_zero, List.getElem?_cons_succ, -getElem?_pos, hi, hx, hG]; exact rfl) (by first | exact .inl rfl | exact .inr rfl) (by rfl) ?_
                  | refine PostD_no1 _ (by rfl) (by rfl) (by simp (maxSteps := 4000000) [List.getElem?_cons_zero, List.getElem?_cons_succ, ]; exact rfl) ?_)
                refine PostD_end ?_
                simp (maxSteps := 4000000) [List.getElem?_cons_zero, List.getElem?_cons_succ, -Prod.exists, w1]
                exact ⟨(true, i + 1), ⟨by simp; omega, htk2, hfin.symm⟩, by simp; omega, by simp⟩
    | false =>
      clear hM2
      have hM2 := trivial
      cases one with
      | true =>
        have hone2 : (true || false) = true := rfl
        simp (maxSteps := 4000000) [List.getElem?_cons_zero, List.getElem?_cons_succ, -getElem?_pos, hi, hx, c5, hM1, hq1, hq2]
        refine Post_loop (I := fun q : Bool × Nat => ⟨[(0, .sl .sh (l.map .str)), (1, .str path), (2, .str more), (8, .bool true), (9, .int .i64 i), (10, .bool false), (11, .bool q.1), (12, .int .i64 q.2)], [], σ⟩) (Pr := fun q => q.2 ≤ x.length ∧ q.1 = plN x q.2) (μ := fun q => x.length - q.2) (a := (!(x == []), 0)) (by simp) (by simp [plN]) ?_
        rintro ⟨pl, k⟩ ⟨hk, hpl⟩
        simp only at hk hpl ⊢
        have w3 := w2 k (by omega)
        by_cases hkl : k < x.length
        · obtain ⟨c, hc⟩ : ∃ c, x[k]? = some c := ⟨_, List.getElem?_eq_getElem hkl⟩
          have hpl2 : plN x (k + 1) = (pl && (decide (c ≠ 42) && decide (c ≠ 63))) := by
            unfold plN at hpl ⊢
            rw [List.take_add_one, hc, List.all_append, hpl]; simp [Bool.and_assoc]
          cases pl with
          | false =>
            simp (maxSteps := 4000000) [List.getElem?_cons_zero, List.getElem?_cons_succ, -getElem?_pos, -Prod.exists, hi, hx, hkl, w3]
            exact ⟨(false, k + 1), ⟨by simp; omega, by show false = plN x (k + 1); rw [hpl2]; rfl⟩, by simp; omega, by simp⟩
          | true =>
            by_cases h42 : c = 42
            · subst h42
              simp (maxSteps := 4000000) [List.getElem?_cons_zero, List.getElem?_cons_succ, -getElem?_pos, -Prod.exists, hi, hx, hkl, hc, w3]
              exact ⟨(false, k + 1), ⟨by simp; omega, by show false = plN x (k + 1); rw [hpl2]; rfl⟩, by simp; omega, by simp⟩
            · by_cases h63 : c = 63
              · subst h63
                simp (maxSteps := 4000000) [List.getElem?_cons_zero, List.getElem?_cons_succ, -getElem?_pos, -Prod.exists, hi, hx, hkl, hc, w3]
                exact ⟨(false, k + 1), ⟨by simp; omega, by show false = plN x (k + 1); rw [hpl2]; rfl⟩, by simp; omega, by simp⟩
              · simp (maxSteps := 4000000) [List.getElem?_cons_zero, List.getElem?_cons_succ, -getElem?_pos, -Prod.exists, hi, hx, hkl, hc, h42, h63, w3]
                exact ⟨(true, k + 1), ⟨by simp; omega, by show true = plN x (k + 1); rw [hpl2]; simp [h42, h63]⟩, by simp; omega, by simp⟩
        · unfold plN at hpl
          rw [List.take_of_length_le (by omega)] at hpl
          have hpl : pl = plainB x := hpl
          have hfin : (l.take (i + 1)).any (matchP (splitB 47 path)) = true := by rw [← hone, hone2]
          cases hb1 : (path == x) with
          | true =>
            cases pl with
            | true =>
              have hmt := hpm hpl.symm
              rw [hb1] at hmt
              have hgx := hps hpl.symm
              rw [hgx] at hG
              first
              | (exfalso; simp at hmt; done)
              | (simp (maxSteps := 4000000) [List.getElem?_cons_zero, List.getElem?_cons_succ, -getElem?_pos, -Prod.exists, -regionA_true, -beq_iff_eq, hi, hx, hkl, hb1]
                 refine Post_bndD [] _ (by rfl) (by simp (maxSteps := 4000000) [List.getElem?_cons_zero, List.getElem?_cons_succ, ]; exact rfl) ?_
                 repeat (first
                   | refine PostD_go _ (by rfl) (by rfl) (by simp (maxSteps := 4000000) [List.getElem?_cons_zero, List.getElem?_cons_succ, -getElem?_pos, hi, hx, hG]; exact rfl) (by first | exact .inl rfl | exact .inr rfl) (by rfl) ?_
                   | refine PostD_no1 _ (by rfl) (by rfl) (by simp (maxSteps := 4000000) [List.getElem?_cons_zero, List.getElem?_cons_succ, ]; exact rfl) ?_)
                 refine PostD_end ?_
                 simp (maxSteps := 4000000) [List.getElem?_cons_zero, List.getElem?_cons_succ, -Prod.exists, w1]
                 exact ⟨(true, i + 1), ⟨by simp; omega, htk2, hfin.symm⟩, by simp; omega, by simp⟩)
            | false =>
              cases hgx : globB x x with
              | true =>
                rw [hgx] at hG
                simp (maxSteps := 4000000) [List.getElem?_cons_zero, List.getElem?_cons_succ, -getElem?_pos, -Prod.exists, -regionA_true, -beq_iff_eq, hi, hx, hkl, hb1]
                refine Post_bndD [] _ (by rfl) (by simp (maxSteps := 4000000) [List.getElem?_cons_zero, List.getElem?_cons_succ, ]; exact rfl) ?_
                repeat (first
                  | refine PostD_go _ (by rfl) (by rfl) (by simp (maxSteps := 4000000) [List.getElem?_cons_zero, List.getElem?_cons_succ, -getElem?_pos, hi, hx, hG]; exact rfl) (by first | exact .inl rfl | exact .inr rfl) (by rfl) ?_
                  | refine PostD_no1 _ (by rfl) (by rfl) (by simp (maxSteps := 4000000) [List.getElem?_cons_zero, List.getElem?_cons_succ, ]; exact rfl) ?_)
                refine PostD_end ?_
                simp (maxSteps := 4000000) [List.getElem?_cons_zero, List.getElem?_cons_succ, -Prod.exists, w1]
                exact ⟨(true, i + 1), ⟨by simp; omega, htk2, hfin.symm⟩, by simp; omega, by simp⟩
              | false =>
                rw [hgx] at hG
                simp (maxSteps := 4000000) [List.getElem?_cons_zero, List.getElem?_cons_succ, -getElem?_pos, -Prod.exists, -regionA_true, -beq_iff_eq, hi, hx, hkl, hb1]
                refine Post_bndD [] _ (by rfl) (by simp (maxSteps := 4000000) [List.getElem?_cons_zero, List.getElem?_cons_succ, ]; exact rfl) ?_
                repeat (first
                  | refine PostD_go _ (by rfl) (by rfl) (by simp (maxSteps := 4000000) [List.getElem?_cons_zero, List.getElem?_cons_succ, -getElem?_pos, hi, hx, hG]; exact rfl) (by first | exact .inl rfl | exact .inr rfl) (by rfl) ?_
                  | refine PostD_no1 _ (by rfl) (by rfl) (by simp (maxSteps := 4000000) [List.getElem?_cons_zero, List.getElem?_cons_succ, ]; exact rfl) ?_)
                refine PostD_end ?_
                simp (maxSteps := 4000000) [List.getElem?_cons_zero, List.getElem?_cons_succ, -Prod.exists, w1]
                exact ⟨(true, i + 1), ⟨by simp; omega, htk2, hfin.symm⟩, by simp; omega, by simp⟩
          | false =>
            obtain ⟨bg, hbg⟩ : ∃ b, (x ++ [47]).isPrefixOf path = b := ⟨_, rfl⟩
            rw [hbg] at hB hpm
            cases pl with
            | true =>
              have hmt := hpm hpl.symm
              rw [hb1] at hmt
              simp only [Bool.false_or] at hmt
              rw [← hmt] at hB
              have hgx := hps hpl.symm
              rw [hgx] at hG
              simp (maxSteps := 4000000) [List.getElem?_cons_zero, List.getElem?_cons_succ, -getElem?_pos, -Prod.exists, -regionA_true, -beq_eq_false_iff_ne, hi, hx, hkl, hb1, hq3, hB]
              refine Post_bndD [] _ (by rfl) (by simp (maxSteps := 4000000) [List.getElem?_cons_zero, List.getElem?_cons_succ, ]; exact rfl) ?_
              repeat (first
                | refine PostD_go _ (by rfl) (by rfl) (by simp (maxSteps := 4000000) [List.getElem?_cons_zero, List.getElem?_cons_succ, -getElem?_pos, hi, hx, hG]; exact rfl) (by first | exact .inl rfl | exact .inr rfl) (by rfl) ?_
                | refine PostD_no1 _ (by rfl) (by rfl) (by simp (maxSteps := 4000000) [List.getElem?_cons_zero, List.getElem?_cons_succ, ]; exact rfl) ?_)
              refine PostD_end ?_
              simp (maxSteps := 4000000) [List.getElem?_cons_zero, List.getElem?_cons_succ, -Prod.exists, w1]
              exact ⟨(true, i + 1), ⟨by simp; omega, htk2, hfin.symm⟩, by simp; omega, by simp⟩
            | false =>
              cases hgx : globB x x with
              | true =>
                rw [hgx] at hG
                simp (maxSteps := 4000000) [List.getElem?_cons_zero, List.getElem?_cons_succ, -getElem?_pos, -Prod.exists, -regionA_true, -beq_eq_false_iff_ne, hi, hx, hkl, hb1, hq3, hB]
                refine Post_bndD [] _ (by rfl) (by simp (maxSteps := 4000000) [List.getElem?_cons_zero, List.getElem?_cons_succ, ]; exact rfl) ?_
                repeat (first
                  | refine PostD_go _ (by rfl) (by rfl) (by simp (maxSteps := 4000000) [List.getElem?_cons_zero, List.getElem?_cons_succ, -getElem?_pos, hi, hx, hG]; exact rfl) (by first | exact .inl rfl | exact .inr rfl) (by rfl) ?_
                  | refine PostD_no1 _ (by rfl) (by rfl) (by simp (maxSteps := 4000000) [List.getElem?_cons_zero, List.getElem?_cons_succ, ]; exact rfl) ?_)
                refine PostD_end ?_
                simp (maxSteps := 4000000) [List.getElem?_cons_zero, List.getElem?_cons_succ, -Prod.exists, w1]
                exact ⟨(true, i + 1), ⟨by simp; omega, htk2, hfin.symm⟩, by simp; omega, by simp⟩
              | false =>
                rw [hgx] at hG
                simp (maxSteps := 4000000) [List.getElem?_cons_zero, List.getElem?_cons_succ, -getElem?_pos, -Prod.exists, -regionA_true, -beq_eq_false_iff_ne, hi, hx, hkl, hb1, hq3, hB]
                refine Post_bndD [] _ (by rfl) (by simp (maxSteps := 4000000) [List.getElem?_cons_zero, List.getElem?_cons_succ, ]; exact rfl) ?_
                repeat (first
                  | refine PostD_go _ (by rfl) (by rfl) (by simp (maxSteps := 4000000) [List.getElem?_cons_zero, List.getElem?_cons_succ, -getElem?_pos, hi, hx, hG]; exact rfl) (by first | exact .inl rfl | exact .inr rfl) (by rfl) ?_
                  | refine PostD_no1 _ (by rfl) (by rfl) (by simp (maxSteps := 4000000) [List.getElem?_cons_zero, List.getElem?_cons_succ, ]; exact rfl) ?_)
                refine PostD_end ?_
                simp (maxSteps := 4000000) [List.getElem?_cons_zero, List.getElem?_cons_succ, -Prod.exists, w1]
                exact ⟨(true, i + 1), ⟨by simp; omega, htk2, hfin.symm⟩, by simp; omega, by simp⟩
      | false =>
        have hone2 : (false || false) = false := rfl
        simp (maxSteps := 4000000) [List.getElem?_cons_zero, List.getElem?_cons_succ, -getElem?_pos, hi, hx, c5, hM1, hq1, hq2]
        refine Post_loop (I := fun q : Bool × Nat => ⟨[(0, .sl .sh (l.map .str)), (1, .str path), (2, .str more), (8, .bool false), (9, .int .i64 i), (10, .bool false), (11, .bool q.1), (12, .int .i64 q.2)], [], σ⟩) (Pr := fun q => q.2 ≤ x.length ∧ q.1 = plN x q.2) (μ := fun q => x.length - q.2) (a := (!(x == []), 0)) (by simp) (by simp [plN]) ?_
        rintro ⟨pl, k⟩ ⟨hk, hpl⟩
        simp only at hk hpl ⊢
        have w3 := w2 k (by omega)
        by_cases hkl : k < x.length
        · obtain ⟨c, hc⟩ : ∃ c, x[k]? = some c := ⟨_, List.getElem?_eq_getElem hkl⟩
          have hpl2 : plN x (k + 1) = (pl && (decide (c ≠ 42) && decide (c ≠ 63))) := by
            unfold plN at hpl ⊢
            rw [List.take_add_one, hc, List.all_append, hpl]; simp [Bool.and_assoc]
          cases pl with
          | false =>
            simp (maxSteps := 4000000) [List.getElem?_cons_zero, List.getElem?_cons_succ, -getElem?_pos, -Prod.exists, hi, hx, hkl, w3]
            exact ⟨(false, k + 1), ⟨by simp; omega, by show false = plN x (k + 1); rw [hpl2]; rfl⟩, by simp; omega, by simp⟩
          | true =>
            by_cases h42 : c = 42
            · subst h42
              simp (maxSteps := 4000000) [List.getElem?_cons_zero, List.getElem?_cons_succ, -getElem?_pos, -Prod.exists, hi, hx, hkl, hc, w3]
              exact ⟨(false, k + 1), ⟨by simp; omega, by show false = plN x (k + 1); rw [hpl2]; rfl⟩, by simp; omega, by simp⟩
            · by_cases h63 : c = 63
              · subst h63
                simp (maxSteps := 4000000) [List.getElem?_cons_zero, List.getElem?_cons_succ, -getElem?_pos, -Prod.exists, hi, hx, hkl, hc, w3]
                exact ⟨(false, k + 1), ⟨by simp; omega, by show false = plN x (k + 1); rw [hpl2]; rfl⟩, by simp; omega, by simp⟩
              · simp (maxSteps := 4000000) [List.getElem?_cons_zero, List.getElem?_cons_succ, -getElem?_pos, -Prod.exists, hi, hx, hkl, hc, h42, h63, w3]
                exact ⟨(true, k + 1), ⟨by simp; omega, by show true = plN x (k + 1); rw [hpl2]; simp [h42, h63]⟩, by simp; omega, by simp⟩
        · unfold plN at hpl
          rw [List.take_of_length_le (by omega)] at hpl
          have hpl : pl = plainB x := hpl
          have hfin : (l.take (i + 1)).any (matchP (splitB 47 path)) = false := by rw [← hone, hone2]
          cases hb1 : (path == x) with
          | true =>
            cases pl with
            | true =>
              have hmt := hpm hpl.symm
              rw [hb1] at hmt
              have hgx := hps hpl.symm
              rw [hgx] at hG
              first
              | (exfalso; simp at hmt; done)
              | (simp (maxSteps := 4000000) [List.getElem?_cons_zero, List.getElem?_cons_succ, -getElem?_pos, -Prod.exists, -regionA_true, -beq_iff_eq, hi, hx, hkl, hb1]
                 refine Post_bndD [] _ (by rfl) (by simp (maxSteps := 4000000) [List.getElem?_cons_zero, List.getElem?_cons_succ, ]; exact rfl) ?_
                 repeat (first
                   | refine PostD_go _ (by rfl) (by rfl) (by simp (maxSteps := 4000000) [List.getElem?_cons_zero, List.getElem?_cons_succ, -getElem?_pos, hi, hx, hG]; exact rfl) (by first | exact .inl rfl | exact .inr rfl) (by rfl) ?_
                   | refine PostD_no1 _ (by rfl) (by rfl) (by simp (maxSteps := 4000000) [List.getElem?_cons_zero, List.getElem?_cons_succ, ]; exact rfl) ?_)
                 refine PostD_end ?_
                 simp (maxSteps := 4000000) [List.getElem?_cons_zero, List.getElem?_cons_succ, -Prod.exists, w1]
                 exact ⟨(false, i + 1), ⟨by simp; omega, htk2, hfin.symm⟩, by simp; omega, by simp⟩)
            | false =>
              cases hgx : globB x x with
              | true =>
                rw [hgx] at hG
                simp (maxSteps := 4000000) [List.getElem?_cons_zero, List.getElem?_cons_succ, -getElem?_pos, -Prod.exists, -regionA_true, -beq_iff_eq, hi, hx, hkl, hb1]
                refine Post_bndD [] _ (by rfl) (by simp (maxSteps := 4000000) [List.getElem?_cons_zero, List.getElem?_cons_succ, ]; exact rfl) ?_
                repeat (first
                  | refine PostD_go _ (by rfl) (by rfl) (by simp (maxSteps := 4000000) [List.getElem?_cons_zero, List.getElem?_cons_succ, -getElem?_pos, hi, hx, hG]; exact rfl) (by first | exact .inl rfl | exact .inr rfl) (by rfl) ?_
                  | refine PostD_no1 _ (by rfl) (by rfl) (by simp (maxSteps := 4000000) [List.getElem?_cons_zero, List.getElem?_cons_succ, ]; exact rfl) ?_)
                refine PostD_end ?_
                simp (maxSteps := 4000000) [List.getElem?_cons_zero, List.getElem?_cons_succ, -Prod.exists, w1]
                exact ⟨(false, i + 1), ⟨by simp; omega, htk2, hfin.symm⟩, by simp; omega, by simp⟩
              | false =>
                rw [hgx] at hG
                simp (maxSteps := 4000000) [List.getElem?_cons_zero, List.getElem?_cons_succ, -getElem?_pos, -Prod.exists, -regionA_true, -beq_iff_eq, hi, hx, hkl, hb1]
                refine Post_bndD [] _ (by rfl) (by simp (maxSteps := 4000000) [List.getElem?_cons_zero, List.getElem?_cons_succ, ]; exact rfl) ?_
                repeat (first
                  | refine PostD_go _ (by rfl) (by rfl) (by simp (maxSteps := 4000000) [List.getElem?_cons_zero, List.getElem?_cons_succ, -getElem?_pos, hi, hx, hG]; exact rfl) (by first | exact .inl rfl | exact .inr rfl) (by rfl) ?_
                  | refine PostD_no1 _ (by rfl) (by rfl) (by simp (maxSteps := 4000000) [List.getElem?_cons_zero, List.getElem?_cons_succ, ]; exact rfl) ?_)
                refine PostD_end ?_
                simp (maxSteps := 4000000) [List.getElem?_cons_zero, List.getElem?_cons_succ, -Prod.exists, w1]
                exact ⟨(false, i + 1), ⟨by simp; omega, htk2, hfin.symm⟩, by simp; omega, by simp⟩
          | false =>
            obtain ⟨bg, hbg⟩ : ∃ b, (x ++ [47]).isPrefixOf path = b := ⟨_, rfl⟩
            rw [hbg] at hB hpm
            cases pl with
            | true =>
              have hmt := hpm hpl.symm
              rw [hb1] at hmt
              simp only [Bool.false_or] at hmt
              rw [← hmt] at hB
              have hgx := hps hpl.symm
              rw [hgx] at hG
              simp (maxSteps := 4000000) [List.getElem?_cons_zero, List.getElem?_cons_succ, -getElem?_pos, -Prod.exists, -regionA_true, -beq_eq_false_iff_ne, hi, hx, hkl, hb1, hq3, hB]
              refine Post_bndD [] _ (by rfl) (by simp (maxSteps := 4000000) [List.getElem?_cons_zero, List.getElem?_cons_succ, ]; exact rfl) ?_
              repeat (first
                | refine PostD_go _ (by rfl) (by rfl) (by simp (maxSteps := 4000000) [List.getElem?_cons_zero, List.getElem?_cons_succ, -getElem?_pos, hi, hx, hG]; exact rfl) (by first | exact .inl rfl | exact .inr rfl) (by rfl) ?_
                | refine PostD_no1 _ (by rfl) (by rfl) (by simp (maxSteps := 4000000) [List.getElem?_cons_zero, List.getElem?_cons_succ, ]; exact rfl) ?_)
              refine PostD_end ?_
              simp (maxSteps := 4000000) [List.getElem?_cons_zero, List.getElem?_cons_succ, -Prod.exists, w1]
              exact ⟨(false, i + 1), ⟨by simp; omega, htk2, hfin.symm⟩, by simp; omega, by simp⟩
            | false =>
              cases hgx : globB x x with
              | true =>
                rw [hgx] at hG
                simp (maxSteps := 4000000) [List.getElem?_cons_zero, List.getElem?_cons_succ, -getElem?_pos, -Prod.exists, -regionA_true, -beq_eq_false_iff_ne, hi, hx, hkl, hb1, hq3, hB]
                refine Post_bndD [] _ (by rfl) (by simp (maxSteps := 4000000) [List.getElem?_cons_zero, List.getElem?_cons_succ, ]; exact rfl) ?_
                repeat (first
                  | refine PostD_go _ (by rfl) (by rfl) (by simp (maxSteps := 4000000) [List.getElem?_cons_zero, List.getElem?_cons_succ, -getElem?_pos, hi, hx, hG]; exact rfl) (by first | exact .inl rfl | exact .inr rfl) (by rfl) ?_
                  | refine PostD_no1 _ (by rfl) (by rfl) (by simp (maxSteps := 4000000) [List.getElem?_cons_zero, List.getElem?_cons_succ, ]; exact rfl) ?_)
                refine PostD_end ?_
                simp (maxSteps := 4000000) [List.getElem?_cons_zero, List.getElem?_cons_succ, -Prod.exists, w1]
                exact ⟨(false, i + 1), ⟨by simp; omega, htk2, hfin.symm⟩, by simp; omega, by simp⟩
              | false =>
                rw [hgx] at hG
                simp (maxSteps := 4000000) [List.getElem?_cons_zero, List.getElem?_cons_succ, -getElem?_pos, -Prod.exists, -regionA_true, -beq_eq_false_iff_ne, hi, hx, hkl, hb1, hq3, hB]
                refine Post_bndD [] _ (by rfl) (by simp (maxSteps := 4000000) [List.getElem?_cons_zero, List.getElem?_cons_succ, ]; exact rfl) ?_
                repeat (first
                  | refine PostD_go _ (by rfl) (by rfl) (by simp (maxSteps := 4000000) [List.getElem?_cons_zero, List.getElem?_cons_succ, -getElem?_pos, hi, hx, hG]; exact rfl) (by first | exact .inl rfl | exact .inr rfl) (by rfl) ?_
                  | refine PostD_no1 _ (by rfl) (by rfl) (by simp (maxSteps := 4000000) [List.getElem?_cons_zero, List.getElem?_cons_succ, ]; exact rfl) ?_)
                refine PostD_end ?_
                simp (maxSteps := 4000000) [List.getElem?_cons_zero, List.getElem?_cons_succ, -Prod.exists, w1]
                exact ⟨(false, i + 1), ⟨by simp; omega, htk2, hfin.symm⟩, by simp; omega, by simp⟩
  · have hM := Match_eq l (by omega) (fun p hp => by
      have := h2 p (by rw [List.take_of_length_le (by omega)]; exact hp)
      omega) path (by omega)
    rw [List.take_of_length_le (by omega)] at h3
    rw [← h3] at hM
    cases one <;> simp (maxSteps := 4000000) [List.getElem?_cons_zero, List.getElem?_cons_succ, hi, hM, Tryz.results6]
end Go.Proofs.Tryz.Ai
end
section
/- The frame of SumfileFronts: from the evaluation to the given statement. -/

namespace Go.Proofs.YtoofpdaplnjmdaaGreatDoor.sumfileFronts
open Go Go.AI Go.ChangeShapes Go.WideShapes Go.ChangeAt Go.RowKit
set_option linter.unusedVariables false

theorem own : ownKnob Tryz.prog.godebug = none := by kernel_rfl
theorem mixed : Tryz.prog.follows .mixedOrders = true := by kernel_rfl
theorem laidOut : laidOutB Tryz.prog = true := by kernel_rfl

theorem walk (a0 : List (List UInt8)) (a1 : List UInt8) (a2 : List UInt8) (v0 v1 v2 : Value) (W : World) (hl : Go.Proofs.Tryz.Ai.LaidAll W) (r0 : Rep W.heap.size gh0 W v0 (.sl .sh (a0.map .str))) (r1 : Rep W.heap.size gh0 W v1 (.str a1)) (r2 : Rep W.heap.size gh0 W v2 (.str a2))
    (he : Go.Proofs.Tryz.Ai.ev 6 [.sl .sh (a0.map .str), .str a1, .str a2] [] = some (.bool true, [])) :
    Calls Tryz.prog 6 #[v0, v1, v2] W fun e w' => e = .returned (.bool true) ∧ Below W.heap.size W w' :=
  Go.AI.top (s' := []) mixed rfl (Go.Proofs.Tryz.Ai.T_ok hl) (by rfl)
    (fun j c h => by
      match j, h with
      | 0, h => simp at h; subst h; exact ⟨r0, rfl, rfl⟩
      | 1, h => simp at h; subst h; exact ⟨r1, rfl, rfl⟩
      | 2, h => simp at h; subst h; exact ⟨r2, rfl, rfl⟩
      | j + 3, h => simp at h)
    he

/-- the table of powers, as the row lays it -/
theorem laid_of {W : World} (hL : laidMet Tryz.prog Rows.sumfileFrontsRow.laid W) : Go.Proofs.Tryz.Ai.Laid W :=
  tabIs_of_mem (g := 5) (t := 260) (e := 226) (n := 20) (by
    have : ("internal/strconv.uint64pow10", Rows.laid_internal_strconv_uint64pow10) ∈ Rows.sumfileFrontsRow.laid := by simp [Rows.sumfileFrontsRow]
    have e : (Rows.laid_internal_strconv_uint64pow10 : DataW Unit) = Lib.tabData .u64 Lib.pow10Tab := by kernel_rfl
    rw [e] at this; exact this) (by kernel_rfl) (by kernel_rfl) Tryz.underlying260 Tryz.underlying226 (by kernel_rfl) (by kernel_rfl) hL

/-- what a row lays, and what each world has -/
theorem all_of {W : World} (hL : laidMet Tryz.prog Rows.sumfileFrontsRow.laid W) (hsh : W.ShapedOpen Tryz.prog) : Go.Proofs.Tryz.Ai.LaidAll W where
  tab := laid_of hL
  max := Go.Proofs.Tryz.Ai.maxLen_of hsh
  esyn := Go.Proofs.Tryz.Ai.errAt_of (g := 3) (Go.Proofs.Tryz.Ai.laidMet_drop 5 hL) (by kernel_rfl) (by kernel_rfl)
  eran := Go.Proofs.Tryz.Ai.errAt_of (g := 4) (Go.Proofs.Tryz.Ai.laidMet_drop 4 hL) (by kernel_rfl) (by kernel_rfl)

theorem readable : ∀ t ∈ Tryz.f6.params.toList, Tryz.prog.readableRec t = true ∧ t < Tryz.prog.types.size := by
  rw [Tryz.params6]
  intro t ht
  simp only [List.mem_cons, List.mem_nil_iff, or_false] at ht
  rcases ht with rfl | rfl | rfl <;> exact ⟨by kernel_rfl, of_decide_eq_true (by kernel_rfl)⟩

set_option maxRecDepth 100000 in
theorem contract (H : Type) (enc : TypeId × Value → H) (W : World) (base : Nat) (args : Array Value) (ds gs : List (DataW H)) (before : List MemPlace)
    (hval : ∀ (j : Nat) t v, Tryz.f6.params[j]? = some t → args[j]? = some v → Value.okWide Tryz.prog W .any base t v)
    (hW : DataW.Whole enc Tryz.prog Tryz.f6.params.toList Rows.sumfileFrontsSpec.vars false W args.toList ds gs before) (hl : Go.Proofs.Tryz.Ai.LaidAll W) :
    Calls Tryz.prog 6 args W fun e W' => ∃ v, e = .returned v ∧ Rows.sumfileFrontsSpec.post enc Tryz.prog Tryz.f6 false true false false W args v W' := by
  have hW' := hW
  obtain ⟨p, q, hA0, hV, rfl, hfz, hnd⟩ := hW
  have hA : DataW.TrodAll enc Tryz.prog W 0 (fun _ => true) true Tryz.f6.params.toList args.toList ds p := hA0
  have hAk := hA
  rw [Tryz.params6] at hA hval
  obtain ⟨v0, vs0, d0, ds0, p0, q0, hargs0, rfl, rfl, h0, r0⟩ := trodAll_cons hA
  obtain ⟨v1, vs1, d1, ds1, p1, q1, hargs1, rfl, rfl, h1, r1⟩ := trodAll_cons r0
  obtain ⟨v2, vs2, d2, ds2, p2, q2, hargs2, rfl, rfl, h2, r2⟩ := trodAll_cons r1
  obtain ⟨e1, e2, e3⟩ := trodAll_nil r2
  obtain rfl : args = #[v0, v1, v2] := by cases args; simp_all
  subst e2 e3
  obtain ⟨rfl, rfl⟩ := trodVars_none hV
  obtain ⟨a0, Q0, R0, _⟩ := (Reads.slice (Reads.str Tryz.underlying9 (by kernel_rfl)) Tryz.underlying56 (by kernel_rfl)).arg1 (enc := enc) (W := W) (fun _ => rfl) (by kernel_rfl) (hval 0 56 v0 rfl rfl) h0
  obtain ⟨a1, Q1, R1, _⟩ := (Reads.str Tryz.underlying9 (by kernel_rfl)).arg1 (enc := enc) (W := W) (fun _ => rfl) (by kernel_rfl) (hval 1 9 v1 rfl rfl) h1
  obtain ⟨a2, Q2, R2, _⟩ := (Reads.str Tryz.underlying9 (by kernel_rfl)).arg1 (enc := enc) (W := W) (fun _ => rfl) (by kernel_rfl) (hval 2 9 v2 rfl rfl) h2
  have hlt : ∀ x ∈ (p0 ++ p1 ++ p2 : List MemPlace), True := fun _ _ => trivial
  refine (walk a0 a1 a2 v0 v1 v2 W hl R0 R1 R2 (by have := Go.Proofs.Tryz.Ai.frontsLaw0 a0 a1 a2  []; exact this)).mono fun e W' ⟨he, bel⟩ => ?_
  subst he
  exact ⟨_, rfl, _, _, _, [], _, [], hW', trodAll_mk1 (shut_bool Tryz.underlying4 _), trodAll_keep laidOut bel readable hAk (fun x hx => by simpa using hW'.lt x (by simpa using hx)), rfl, bel.frame _, fun h => by cases h⟩

noncomputable def laidWorld (os : Os) : World := World.laidAll Tryz.prog os Rows.sumfileFrontsRow.laid
theorem laid_met (os : Os) : laidMet Tryz.prog Rows.sumfileFrontsRow.laid ((laidWorld os).forCall (fun _ _ => 0) ⟨#[], #[.slice none 0 0, .string ⟨#[]⟩, .string ⟨#[]⟩], []⟩).memory :=
  laidMet_laidAll _ (by kernel_rfl) (by kernel_rfl)
theorem reads (os : Os) {H : Type} (enc : TypeId × Value → H) : ∃ places, DataW.whole enc Tryz.prog ((laidWorld os).forCall (fun _ _ => 0) ⟨#[], #[.slice none 0 0, .string ⟨#[]⟩, .string ⟨#[]⟩], []⟩).memory Tryz.f6.params.toList Rows.sumfileFrontsSpec.vars false (#[.slice none 0 0, .string ⟨#[]⟩, .string ⟨#[]⟩] : Array Value).toList 8 = some ([.nil, .lit (.string []), .lit (.string [])], [], places) :=
  ⟨[], by kernel_rfl⟩
theorem witness (os : Os) {H : Type} (enc : TypeId × Value → H) : ∃ (w : World) (tape : Tape) (i : Input), w.os = os ∧ (w.forCall tape i).Shaped Tryz.checked.prog ∧ i.vars = [] ∧ Input.okWide Tryz.checked.prog (w.forCall tape i) .any w.heap.size 6 i ∧
    (OpenSpec.ofChange Rows.sumfileFrontsSpec).preRow enc Tryz.checked.prog Tryz.f6 Rows.sumfileFrontsRow.domain false Rows.sumfileFrontsRow.laid (w.forCall tape i).memory i.args ∧ ({} : Assume).holds Tryz.checked.prog (lone (Frame.enter Tryz.checked.prog 6 i.args .normal) [] (w.forCall tape i)) := by
  obtain ⟨places, hx⟩ := reads os enc
  have hok : Input.okWideB Tryz.checked.prog ((laidWorld os).forCall (fun _ _ => 0) ⟨#[], #[.slice none 0 0, .string ⟨#[]⟩, .string ⟨#[]⟩], []⟩) 6 ⟨#[], #[.slice none 0 0, .string ⟨#[]⟩, .string ⟨#[]⟩], []⟩ = true := by kernel_rfl
  exact ⟨laidWorld os, fun _ _ => 0, ⟨#[], #[.slice none 0 0, .string ⟨#[]⟩, .string ⟨#[]⟩], []⟩, World.laidAll_os _ _ _, World.shaped_of_ZipB (by kernel_rfl) (by kernel_rfl), (Input.okWide_of_okWideB (base := 0) hok).1, (Input.okWide_of_okWideB hok).2,
    OpenSpec.preRow_of_cond 8 hx (by kernel_rfl) (fun k hk => by cases hk) (by kernel_rfl) (laid_met os), by
    simp only [Assume.holds]
    exact ⟨by simp, by simp, fun _ => Modest.zero, by simp, by simp⟩⟩

set_option maxRecDepth 100000 in
theorem lifted (os : Os) (started : os.Started) (H : Type) (enc : TypeId × Value → H) (F : Stop.Interp) :
    ReturnsInHanded {} Tryz.checked os 6 .any ((OpenSpec.ofChange Rows.sumfileFrontsSpec).preRow enc Tryz.prog Tryz.f6 Rows.sumfileFrontsRow.domain false Rows.sumfileFrontsRow.laid) (((OpenSpec.ofChange Rows.sumfileFrontsSpec).at F).post enc Tryz.prog Tryz.f6 false true false false) := by
  refine returnsInHanded_of_row (C := Tryz.checked) (s := (OpenSpec.ofChange Rows.sumfileFrontsSpec)) own started (by kernel_rfl) Tryz.func6 (witness os enc) ?_
  intro W base args ds gs before hval hW _ hcond _ hL hsh _
  exact contract H enc W base args ds gs before hval hW (all_of (by rw [← MakeChecks.laidMetH_plain _ _ _ (by kernel_rfl)]; exact hL) hsh)

theorem said : Rows.SumfileFrontsSaid :=
  OpenClaim.holds_of_cond 6 Tryz.f6 rfl rfl rfl rfl rfl rfl rfl ⟨rfl, rfl, rfl, rfl, rfl⟩ rfl rfl rfl rfl rfl (by kernel_rfl) Tryz.func6 (by kernel_rfl)
    (of_decide_eq_true (by kernel_rfl)) (by unfold Func.isWrapper; first | (rw [if_pos (by decide +kernel)]; kernel_rfl) | (rw [if_neg (by decide +kernel)]; exact ⟨rfl, rfl⟩))
    (fun os started H enc _ F => by rw [OpenClaim.pre_eq_preRow]; exact lifted os started H enc F)

theorem plain (f : FuncId) (fn : Func) (hf : Tryz.pinned.checked.prog.funcNamed "mews/mewslaw5.SumfileFronts" = some f) (hfn : Tryz.pinned.checked.prog.funcs[f]? = some fn) :
    true = Tryz.pinned.checked.prog.looks [] ∧ ∀ (j : Nat) t, fn.params[j]? = some t → Tryz.pinned.checked.prog.wantsStandIn t = false := by
  obtain rfl : f = 6 := Option.some.inj ((show Tryz.prog.funcNamed "mews/mewslaw5.SumfileFronts" = some 6 by kernel_rfl).symm.trans hf) |>.symm
  obtain rfl : fn = Tryz.f6 := (Option.some.inj (Tryz.func6.symm.trans hfn)).symm
  refine ⟨by kernel_rfl, fun j t ht => ?_⟩
  have hm : t ∈ Tryz.f6.params.toList := Array.mem_toList_iff.2 (Array.mem_of_getElem? ht)
  rw [Tryz.params6] at hm
  simp only [List.mem_cons, List.mem_nil_iff, or_false] at hm
  rcases hm with rfl | rfl | rfl
  · exact (show Tryz.prog.wantsStandIn 56 = false by kernel_rfl)
  · exact (show Tryz.prog.wantsStandIn 9 = false by kernel_rfl)
  · exact (show Tryz.prog.wantsStandIn 9 = false by kernel_rfl)

/-- the card -/
theorem card : Rows.SumfileFrontsCardSaid :=
  Claim7.holds_tied_plain_at .later [] _ _ _ _ said (fun _ h => by cases h) (by kernel_rfl) (fun _ h => by cases h) sumfileFronts_row_tie rfl ⟨rfl, rfl⟩ (by kernel_rfl) rfl plain (by kernel_rfl)
end Go.Proofs.YtoofpdaplnjmdaaGreatDoor.sumfileFronts
end
