/- Part 7 of a proof: a Go function is evaluated on abstract values (texts LMerged .. FMerged); no conditions beyond those of each theorem. -/
import Derived.Test.YtoofpdaplnjmdaaGreatDoorAi6
import Derived.Test.YtoofpdaplnjmdaaGreatDoorRows
import Derived.Test.YtoofpdaplnjmdaaGreatDoorCards
import Derived.Test.YtoofpdaplnjmdaaGreatDoorTie
import Derived.WalkKit
import Derived.ProofKit
import Derived.OpenShut
import Derived.Below
import Derived.ChangeOld
import Derived.Deep.DeepHandedRow
import Derived.Lib.LaidTab
import Derived.Lay
import Derived.MakeChecks
set_option linter.all false
set_option linter.unusedVariables false
set_option linter.unusedSimpArgs false
set_option linter.unnecessarySimpa false
section
/- SumfileMerged: the evaluation. -/
namespace Go.Proofs.Tryz.Ai
open Go Go.AI Go.Proofs Go.B64
set_option maxHeartbeats 8000000
set_option maxRecDepth 4000
set_option linter.unusedVariables false

def mergedI (a X : List Ln) (i : Nat) : Prop := i ≤ a.length
theorem findP_mem {X : List Ln} (h : Dk lnK X) {x : Ln} (hx : x ∈ X) : findP X x.1 x.2.1 = some x.2.2 := by
  rw [findP_key, find_dk h hx rfl]; rfl
theorem findP_some {l : List Ln} {x : Ln} {s : List UInt8} (h : findP l x.1 x.2.1 = some s) : ∃ y ∈ l, lnK y = lnK x ∧ y.2.2 = s := by
  rw [findP_key] at h
  cases hf : l.find? (fun y => decide (lnK y = lnK x)) with
  | none => rw [hf] at h; cases h
  | some y =>
    rw [hf] at h; injection h with h
    have := find_key hf
    exact ⟨y, this.1, this.2, h⟩
theorem findP_isSome {l : List Ln} {x : Ln} (h : x ∈ l) : ∃ s, findP l x.1 x.2.1 = some s := by
  cases hf : findP l x.1 x.2.1 with
  | some s => exact ⟨s, rfl⟩
  | none =>
    rw [findP_key] at hf
    cases hg : l.find? (fun y => decide (lnK y = lnK x)) with
    | none => have := List.find?_eq_none.1 hg x h; simp at this
    | some y => rw [hg] at hf; cases hf
theorem keepP_self (X : List Ln) : keepP X (X.map (·.1)) = X := by
  unfold keepP
  rw [List.filter_eq_self]
  intro x hx
  rw [List.any_eq_true]
  exact ⟨x.1, List.mem_map_of_mem hx, by simp⟩
theorem mergedLaw0 (a b : List Ln) (hal : a.length ≤ 2 ^ 20) (hbl : b.length ≤ 2 ^ 20) (ha : ∀ x ∈ a, lnS x) (hb : ∀ x ∈ b, lnS x) (σ : List (List AV)) : ev 4 [.sl .sh (a.map lnF), .sl .sh (b.map lnF)] σ = some (.bool true, σ) := by
  have hF := first_eq
  have hN := fun e => Num_eq e
  obtain ⟨f1, hf1, _⟩ := few_eq a (by omega) (fun x hx => by obtain ⟨h1, h2, h3⟩ := ha x hx; exact ⟨by omega, by omega, by omega⟩) σ
  obtain ⟨f2, hf2, _⟩ := few_eq b (by omega) (fun x hx => by obtain ⟨h1, h2, h3⟩ := hb x hx; exact ⟨by omega, by omega, by omega⟩) σ
  have hQab : ∀ x ∈ a ++ b, lnM x := fun x hx => by
    rcases List.mem_append.1 hx with h | h
    · obtain ⟨h1, h2, h3⟩ := ha x h; exact ⟨by omega, by omega⟩
    · obtain ⟨h1, h2, h3⟩ := hb x h; exact ⟨by omega, by omega⟩
  have hM1 := Merge_eq a b (by omega) (by omega) hQab
  have hM2 := Merge_eq b a (by omega) (by omega) (fun x hx => hQab x (by simp at hx ⊢; exact hx.symm))
  have hsame : ∀ z, z ∈ a ++ b ↔ z ∈ b ++ a := fun z => by simp [or_comm]
  refine EV_post rfl Tryz.func4 rfl (by simp [Tryz.ntmps4]) (by kernel_rfl) (by kernel_rfl) ?_
  cases f1 with
  | false => simp (maxSteps := 4000000) [List.getElem?_cons_zero, List.getElem?_cons_succ, hF, hf1, Tryz.results4]
  | true =>
    cases f2 with
    | false => simp (maxSteps := 4000000) [List.getElem?_cons_zero, List.getElem?_cons_succ, hF, hf1, hf2, Tryz.results4]
    | true =>
      cases hq1 : mrgF lnK [] (a ++ b) with
      | none =>
        have hq2 := mrgF_ns hsame hq1
        have e1 : mrgP a b = ([], 28) := by unfold mrgP; rw [hq1]
        have e2 : mrgP b a = ([], 28) := by unfold mrgP; rw [hq2]
        rw [e1] at hM1
        rw [e2] at hM2
        have hA := alike_eq [] [] (by simp) (by simp)
        simp only [List.map_nil] at hA hM1 hM2
        simp (maxSteps := 4000000) [List.getElem?_cons_zero, List.getElem?_cons_succ, hF, hf1, hf2, hM1, hM2, hA, hN, Tryz.results4]
      | some o1 =>
        cases hq2 : mrgF lnK [] (b ++ a) with
        | none => rw [mrgF_ns (fun z => (hsame z).symm) hq2] at hq1; cases hq1
        | some o2 =>
          have hXX := mrg_same lnC_key TP.lnC hsame hq1 hq2
          have h1 := mrgF_some .nil hq1
          obtain ⟨X, hX⟩ : ∃ X, isrt lnC o1 = X := ⟨_, rfl⟩
          have e1 : mrgP a b = (X, 0) := by unfold mrgP; rw [hq1, ← hX]
          have e2 : mrgP b a = (X, 0) := by unfold mrgP; rw [hq2, ← hX, hXX]
          have hD : Dk lnK X := by rw [← hX]; exact h1.1.perm (isrt_perm _)
          have hmem : ∀ z, z ∈ X ↔ z ∈ a ∨ z ∈ b := fun z => by rw [← hX, isrt_mem, h1.2]; simp
          have hS : Srt lnC X := by rw [← hX]; exact isrt_srt' TP.lnC _
          have hXl : X.length ≤ 2 ^ 22 := by
            have hI : ∀ {l out o : List Ln}, mrgF lnK out l = some o → o.length ≤ out.length + l.length := by
              intro l
              induction l with
              | nil => intro out o e; rw [mrgF] at e; injection e with e; subst e; simp
              | cons x r ih =>
                intro out o e
                rw [mrgL_step] at e
                split at e
                · split at e
                  · have := ih e; simp at this ⊢; omega
                  · cases e
                · have := ih e; simp at this ⊢; omega
            have := hI hq1
            rw [← hX, isrt_len]
            simp at this; omega
          have hQX : ∀ x ∈ X ++ X, lnM x := fun x hx => by
            have hx : x ∈ X := by simpa using hx
            rcases (hmem x).1 hx with h | h
            · exact hQab x (List.mem_append_left _ h)
            · exact hQab x (List.mem_append_right _ h)
          have e3 : mrgP X X = (X, 0) := by unfold mrgP; rw [mrgF_twice hD]; simp only; rw [isrt_self' TP.lnC hS]
          have hM3 := Merge_eq X X (by omega) (by omega) hQX
          rw [e1] at hM1
          rw [e2] at hM2
          rw [e3] at hM3
          have hA := alike_eq X X (by omega) (by omega)
          have hXs : decide (X = X) = true := by simp
          rw [hXs] at hA
          have hFX := fun x => Find_eq X (by omega) x
          have hFa := fun x => Find_eq a (by omega) x
          have hFb := fun x => Find_eq b (by omega) x
          have hK := Keep_eq X (by omega) (X.map (·.1)) (by simp; omega)
          rw [keepP_self] at hK
          simp only at hM1 hM2 hM3
          obtain ⟨LX, hLX⟩ : ∃ L, X.map lnF = L := ⟨_, rfl⟩
          obtain ⟨LA, hLA⟩ : ∃ L, a.map lnF = L := ⟨_, rfl⟩
          obtain ⟨LB, hLB⟩ : ∃ L, b.map lnF = L := ⟨_, rfl⟩
          have gX : ∀ i : Nat, LX[i]? = (X[i]?).map lnF := fun i => by rw [← hLX, List.getElem?_map]
          have gA : ∀ i : Nat, LA[i]? = (a[i]?).map lnF := fun i => by rw [← hLA, List.getElem?_map]
          have nX : LX.length = X.length := by rw [← hLX, List.length_map]
          have nA : LA.length = a.length := by rw [← hLA, List.length_map]
          rw [hLX] at hM1 hM2 hM3 hA hFX hK
          rw [hLA] at hf1 hM1 hM2 hFa
          rw [hLB] at hf2 hM1 hM2 hFb
          rw [hLA, hLB]
          simp (maxSteps := 4000000) [List.getElem?_cons_zero, List.getElem?_cons_succ, hF, hf1, hf2, hM1, hM2, hA, hN]
          refine Post_loop (I := fun i : Nat => ⟨[(0, .sl .sh LA), (1, .sl .sh LB), (7, .sl .sh LX), (11, .int .i64 i)], [], σ⟩) (Pr := mergedI a X) (μ := fun i => a.length - i) (a := 0) (by simp) (Nat.zero_le _) ?_
          intro i hi
          unfold mergedI at hi
          have w1 : IntKind.i64.wrap ((i : Int) + 1) = (i : Int) + 1 := wrap64 (by omega)
          by_cases hc : i < a.length
          · obtain ⟨x, hx⟩ : ∃ x, a[i]? = some x := ⟨_, List.getElem?_eq_getElem hc⟩
            have hxX : x ∈ X := (hmem x).2 (.inl (List.mem_of_getElem? hx))
            have hFx := hFX x.1 x.2.1
            rw [findP_mem hD hxX] at hFx
            have hAV : findAV (some x.2.2) = .tup [.str x.2.2, .bool true] := rfl
            rw [hAV] at hFx
            have gx : LA[i]? = some (lnF x) := by rw [gA, hx]; rfl
            obtain ⟨⟨x1, x2⟩, x3, x4⟩ := x
            rw [lnFx] at gx
            simp only at hFx gx
            have es : (x4 == x4) = true := by simp
            simp (maxSteps := 4000000) [List.getElem?_cons_zero, List.getElem?_cons_succ, -getElem?_pos, -regionA_true, hc, nA, gx]
            refine Post_bndD [] _ (by rfl) (by simp (maxSteps := 4000000) [List.getElem?_cons_zero, List.getElem?_cons_succ, ]; exact rfl) ?_
            repeat (first
              | refine PostD_go _ (by rfl) (by rfl) (by simp (maxSteps := 4000000) [List.getElem?_cons_zero, List.getElem?_cons_succ, -getElem?_pos, hc, nA, gx, hFx]; exact rfl) (by first | exact .inl rfl | exact .inr rfl) (by rfl) ?_
              | refine PostD_no1 _ (by rfl) (by rfl) (by simp (maxSteps := 4000000) [List.getElem?_cons_zero, List.getElem?_cons_succ, ]; exact rfl) ?_)
            refine PostD_end ?_
            simp (maxSteps := 4000000) [List.getElem?_cons_zero, List.getElem?_cons_succ, -getElem?_pos, -Prod.exists, -Prod.forall, hc, nA, gx, es, w1]
            exact ⟨i + 1, (by unfold mergedI; omega), by omega, by simp⟩
          · simp (maxSteps := 4000000) [List.getElem?_cons_zero, List.getElem?_cons_succ, hc, nA]
            refine Post_loop (I := fun i : Nat => ⟨[(0, .sl .sh LA), (1, .sl .sh LB), (7, .sl .sh LX), (14, .int .i64 i)], [], σ⟩) (Pr := mergedI X a) (μ := fun i => X.length - i) (a := 0) (by simp) (Nat.zero_le _) ?_
            intro i hi
            unfold mergedI at hi
            have w1 : IntKind.i64.wrap ((i : Int) + 1) = (i : Int) + 1 := wrap64 (by omega)
            by_cases hc : i < X.length
            · obtain ⟨x, hx⟩ : ∃ x, X[i]? = some x := ⟨_, List.getElem?_eq_getElem hc⟩
              have hxX : x ∈ X := List.mem_of_getElem? hx
              have gx : LX[i]? = some (lnF x) := by rw [gX, hx]; rfl
              have hva := hFa x.1 x.2.1
              have hvb := hFb x.1 x.2.1
              have ca : ∀ s, findP a x.1 x.2.1 = some s → s = x.2.2 := fun s h => by
                obtain ⟨y, hy, hk, rfl⟩ := findP_some h
                rw [hD.inj ((hmem y).2 (.inl hy)) hxX hk]
              have cb : ∀ s, findP b x.1 x.2.1 = some s → s = x.2.2 := fun s h => by
                obtain ⟨y, hy, hk, rfl⟩ := findP_some h
                rw [hD.inj ((hmem y).2 (.inr hy)) hxX hk]
              have hor : (∃ s, findP a x.1 x.2.1 = some s) ∨ ∃ s, findP b x.1 x.2.1 = some s := by
                rcases (hmem x).1 hxX with h | h
                · exact .inl (findP_isSome h)
                · exact .inr (findP_isSome h)
              have oa : findP a x.1 x.2.1 = none ∨ findP a x.1 x.2.1 = some x.2.2 := by
                cases h : findP a x.1 x.2.1 with
                | none => exact .inl rfl
                | some s => rw [ca s h]; exact .inr rfl
              have ob : findP b x.1 x.2.1 = none ∨ findP b x.1 x.2.1 = some x.2.2 := by
                cases h : findP b x.1 x.2.1 with
                | none => exact .inl rfl
                | some s => rw [cb s h]; exact .inr rfl
              have av1 : findAV (some x.2.2) = .tup [.str x.2.2, .bool true] := rfl
              have av0 : findAV (none : Option (List UInt8)) = .tup [.str [], .bool false] := rfl
              clear ca cb
              obtain ⟨⟨x1, x2⟩, x3, x4⟩ := x
              rw [lnFx] at gx
              simp only at hva hvb gx oa ob hor av1
              have es : (x4 == x4) = true := by simp
              have stp : mergedI X a (i + 1) := by unfold mergedI; omega
              rcases oa with oa | oa <;> rcases ob with ob | ob
              · rw [oa, ob] at hor
                rcases hor with ⟨s, h⟩ | ⟨s, h⟩ <;> cases h
              · rw [oa, av0] at hva
                rw [ob, av1] at hvb
                simp (maxSteps := 4000000) [List.getElem?_cons_zero, List.getElem?_cons_succ, -getElem?_pos, -regionA_true, hc, nX, gx]
                refine Post_bndD [] _ (by rfl) (by simp (maxSteps := 4000000) [List.getElem?_cons_zero, List.getElem?_cons_succ, ]; exact rfl) ?_
                repeat (first
                  | refine PostD_go _ (by rfl) (by rfl) (by simp (maxSteps := 4000000) [List.getElem?_cons_zero, List.getElem?_cons_succ, -getElem?_pos, hc, nX, gx, hva]; exact rfl) (by first | exact .inl rfl | exact .inr rfl) (by rfl) ?_
                  | refine PostD_no1 _ (by rfl) (by rfl) (by simp (maxSteps := 4000000) [List.getElem?_cons_zero, List.getElem?_cons_succ, ]; exact rfl) ?_)
                refine PostD_end ?_
                simp (maxSteps := 4000000) [List.getElem?_cons_zero, List.getElem?_cons_succ, -getElem?_pos, -regionA_true, hc, nX, gx]
                refine Post_bndD [] _ (by rfl) (by simp (maxSteps := 4000000) [List.getElem?_cons_zero, List.getElem?_cons_succ, ]; exact rfl) ?_
                repeat (first
                  | refine PostD_go _ (by rfl) (by rfl) (by simp (maxSteps := 4000000) [List.getElem?_cons_zero, List.getElem?_cons_succ, -getElem?_pos, hc, nX, gx, hvb]; exact rfl) (by first | exact .inl rfl | exact .inr rfl) (by rfl) ?_
                  | refine PostD_no1 _ (by rfl) (by rfl) (by simp (maxSteps := 4000000) [List.getElem?_cons_zero, List.getElem?_cons_succ, ]; exact rfl) ?_)
                refine PostD_end ?_
                simp (maxSteps := 4000000) [List.getElem?_cons_zero, List.getElem?_cons_succ, -getElem?_pos, -Prod.exists, -Prod.forall, hc, nX, gx, es, w1]
                exact ⟨i + 1, stp, by omega, by simp⟩
              · rw [oa, av1] at hva
                rw [ob, av0] at hvb
                simp (maxSteps := 4000000) [List.getElem?_cons_zero, List.getElem?_cons_succ, -getElem?_pos, -regionA_true, hc, nX, gx]
                refine Post_bndD [] _ (by rfl) (by simp (maxSteps := 4000000) [List.getElem?_cons_zero, List.getElem?_cons_succ, ]; exact rfl) ?_
                repeat (first
                  | refine PostD_go _ (by rfl) (by rfl) (by simp (maxSteps := 4000000) [List.getElem?_cons_zero, List.getElem?_cons_succ, -getElem?_pos, hc, nX, gx, hva]; exact rfl) (by first | exact .inl rfl | exact .inr rfl) (by rfl) ?_
                  | refine PostD_no1 _ (by rfl) (by rfl) (by simp (maxSteps := 4000000) [List.getElem?_cons_zero, List.getElem?_cons_succ, ]; exact rfl) ?_)
                refine PostD_end ?_
                simp (maxSteps := 4000000) [List.getElem?_cons_zero, List.getElem?_cons_succ, -getElem?_pos, -regionA_true, hc, nX, gx]
                refine Post_bndD [] _ (by rfl) (by simp (maxSteps := 4000000) [List.getElem?_cons_zero, List.getElem?_cons_succ, ]; exact rfl) ?_
                repeat (first
                  | refine PostD_go _ (by rfl) (by rfl) (by simp (maxSteps := 4000000) [List.getElem?_cons_zero, List.getElem?_cons_succ, -getElem?_pos, hc, nX, gx, hvb]; exact rfl) (by first | exact .inl rfl | exact .inr rfl) (by rfl) ?_
                  | refine PostD_no1 _ (by rfl) (by rfl) (by simp (maxSteps := 4000000) [List.getElem?_cons_zero, List.getElem?_cons_succ, ]; exact rfl) ?_)
                refine PostD_end ?_
                simp (maxSteps := 4000000) [List.getElem?_cons_zero, List.getElem?_cons_succ, -getElem?_pos, -Prod.exists, -Prod.forall, hc, nX, gx, es, w1]
                exact ⟨i + 1, stp, by omega, by simp⟩
              · rw [oa, av1] at hva
                rw [ob, av1] at hvb
                simp (maxSteps := 4000000) [List.getElem?_cons_zero, List.getElem?_cons_succ, -getElem?_pos, -regionA_true, hc, nX, gx]
                refine Post_bndD [] _ (by rfl) (by simp (maxSteps := 4000000) [List.getElem?_cons_zero, List.getElem?_cons_succ, ]; exact rfl) ?_
                repeat (first
                  | refine PostD_go _ (by rfl) (by rfl) (by simp (maxSteps := 4000000) [List.getElem?_cons_zero, List.getElem?_cons_succ, -getElem?_pos, hc, nX, gx, hva]; exact rfl) (by first | exact .inl rfl | exact .inr rfl) (by rfl) ?_
                  | refine PostD_no1 _ (by rfl) (by rfl) (by simp (maxSteps := 4000000) [List.getElem?_cons_zero, List.getElem?_cons_succ, ]; exact rfl) ?_)
                refine PostD_end ?_
                simp (maxSteps := 4000000) [List.getElem?_cons_zero, List.getElem?_cons_succ, -getElem?_pos, -regionA_true, hc, nX, gx]
                refine Post_bndD [] _ (by rfl) (by simp (maxSteps := 4000000) [List.getElem?_cons_zero, List.getElem?_cons_succ, ]; exact rfl) ?_
                repeat (first
                  | refine PostD_go _ (by rfl) (by rfl) (by simp (maxSteps := 4000000) [List.getElem?_cons_zero, List.getElem?_cons_succ, -getElem?_pos, hc, nX, gx, hvb]; exact rfl) (by first | exact .inl rfl | exact .inr rfl) (by rfl) ?_
                  | refine PostD_no1 _ (by rfl) (by rfl) (by simp (maxSteps := 4000000) [List.getElem?_cons_zero, List.getElem?_cons_succ, ]; exact rfl) ?_)
                refine PostD_end ?_
                simp (maxSteps := 4000000) [List.getElem?_cons_zero, List.getElem?_cons_succ, -getElem?_pos, -Prod.exists, -Prod.forall, hc, nX, gx, es, w1]
                exact ⟨i + 1, stp, by omega, by simp⟩
            · obtain ⟨LM, hLM⟩ : ∃ L, (X.map (·.1)).map (fun m : List UInt8 × List UInt8 => AV.agg [.str m.1, .str m.2]) = L := ⟨_, rfl⟩
              rw [hLM] at hK
              have nM : LM.length = X.length := by rw [← hLM]; simp
              have gM : ∀ {i : Nat} {x : Ln}, X[i]? = some x → LM.take (i + 1) = LM.take i ++ [.agg [.str x.1.1, .str x.1.2]] := fun {i x} h => by
                rw [List.take_add_one, ← hLM, List.getElem?_map, List.getElem?_map, h]; rfl
              have aM : ∀ i : Nat, allCells 2 (LM.take i) := fun i c hc => by
                have := List.mem_of_mem_take hc
                rw [← hLM, List.map_map] at this
                obtain ⟨z, _, rfl⟩ := List.mem_map.1 this
                exact ⟨rfl, fun c hc => by simp [AV.cells] at hc; rcases hc with rfl | rfl <;> rfl⟩
              simp (maxSteps := 4000000) [List.getElem?_cons_zero, List.getElem?_cons_succ, hc, nX, hM3]
              refine Post_loop (I := fun i : Nat => ⟨[(7, .sl .sh LX), (19, .sl .sh LX), (20, .int .i64 0), (21, .sl (.ex 24 2) (LM.take i)), (22, .int .i64 i)], [], σ⟩) (Pr := mergedI X b) (μ := fun i => X.length - i) (a := 0) (by simp) (Nat.zero_le _) ?_
              intro i hi
              unfold mergedI at hi
              have w1 : IntKind.i64.wrap ((i : Int) + 1) = (i : Int) + 1 := wrap64 (by omega)
              by_cases hc : i < X.length
              · obtain ⟨x, hx⟩ : ∃ x, X[i]? = some x := ⟨_, List.getElem?_eq_getElem hc⟩
                have gx : LX[i]? = some (lnF x) := by rw [gX, hx]; rfl
                have gm := gM hx
                have am := aM i
                have hm : (LM.take i).length + 1 ≤ most := by rw [List.length_take]; unfold most; omega
                obtain ⟨LI, hLI⟩ : ∃ L, LM.take i = L := ⟨_, rfl⟩
                rw [hLI] at gm am hm ⊢
                obtain ⟨⟨x1, x2⟩, x3, x4⟩ := x
                rw [lnFx] at gx
                simp only at gx gm
                have stp : mergedI X b (i + 1) := by unfold mergedI; omega
                simp (maxSteps := 4000000) [List.getElem?_cons_zero, List.getElem?_cons_succ, -getElem?_pos, -Prod.exists, -Prod.forall, hc, nX, gx, am, hm, w1]
                exact ⟨i + 1, stp, by omega, by rw [gm]; simp⟩
              · have et : LM.take i = LM := List.take_of_length_le (by omega)
                rw [et]
                simp (maxSteps := 4000000) [List.getElem?_cons_zero, List.getElem?_cons_succ, hc, nX, hN, hA, hK, Tryz.results4]
theorem mergedLaw_eq (a b : List Ln) (h1 : a.length ≤ 1048576 ∧ ∀ m ∈ a, m.1.1.length ≤ 1048576 ∧ m.1.2.length ≤ 1048576 ∧ m.2.2.length ≤ 1048576) (h2 : b.length ≤ 1048576 ∧ ∀ m ∈ b, m.1.1.length ≤ 1048576 ∧ m.1.2.length ≤ 1048576 ∧ m.2.2.length ≤ 1048576) (σ : List (List AV)) :
    ev 4 [.sl .sh (a.map fun m => .agg [.str m.1.1, .str m.1.2, .int .i64 m.2.1, .str m.2.2]), .sl .sh (b.map fun m => .agg [.str m.1.1, .str m.1.2, .int .i64 m.2.1, .str m.2.2])] σ = some (.bool true, σ) :=
  mergedLaw0 a b h1.1 h2.1 (fun x hx => h1.2 x hx) (fun x hx => h2.2 x hx) σ
end Go.Proofs.Tryz.Ai
end
section
/- The bulk of what came in. -/
namespace Go.Proofs.YtoofpdaplnjmdaaGreatDoor
open Go Go.AI
set_option linter.unusedVariables false
section
variable {H : Type}
theorem bulk_pos (d : DataW H) : 1 ≤ Rows.uptoBulk d := by
  cases d with
  | lit l => cases l <;> simp [Rows.uptoBulk]
  | _ => simp [Rows.uptoBulk]
theorem bulk_all (ds : List (DataW H)) : ds.length ≤ Rows.uptoBulkAll ds ∧ ∀ d ∈ ds, Rows.uptoBulk d ≤ Rows.uptoBulkAll ds := by
  induction ds with
  | nil => simp
  | cons d r ih =>
    have := bulk_pos d
    simp only [Rows.uptoBulkAll, List.length_cons, List.mem_cons]
    refine ⟨by omega, ?_⟩
    rintro x (rfl | hx)
    · omega
    · have := ih.2 x hx; omega
theorem small_str {s : List UInt8} {d : DataW H} (h : d = .lit (.string s) ∧ s.length ≤ maxLen) : s.length ≤ Rows.uptoBulk d := by
  rw [h.1]; simp [Rows.uptoBulk]
theorem slq_small {α : Type} {Q : α → DataW H → Prop} {f : α → Nat} {l : List α} {d : DataW H} (h : slQ Q l d) (hf : ∀ a x, Q a x → f a ≤ Rows.uptoBulk x) : l.length ≤ Rows.uptoBulk d ∧ ∀ a ∈ l, f a ≤ Rows.uptoBulk d := by
  rcases h with ⟨rfl, rfl⟩ | ⟨ds, rest, rfl, hl, _, hq⟩
  · simp
  · simp only [Rows.uptoBulk]
    have := bulk_all ds
    refine ⟨by omega, fun a ha => ?_⟩
    obtain ⟨i, hi⟩ := List.mem_iff_getElem?.1 ha
    have hlt := (List.getElem?_eq_some_iff.1 hi).1
    obtain ⟨x, hx⟩ : ∃ x, ds[i]? = some x := ⟨_, List.getElem?_eq_getElem (by omega)⟩
    have h1 := hf a x (hq i a x hi hx)
    have h2 := this.2 x (List.mem_of_getElem? hx)
    omega
theorem small_mod {m : List UInt8 × List UInt8} {d : DataW H} (h : st2Q (fun s d => d = .lit (.string s) ∧ s.length ≤ maxLen) (fun s d => d = .lit (.string s) ∧ s.length ≤ maxLen) m d) : m.1.length + m.2.length ≤ Rows.uptoBulk d := by
  obtain ⟨d0, d1, rfl, q0, q1⟩ := h
  have := small_str q0
  have := small_str q1
  simp only [Rows.uptoBulk, Rows.uptoBulkAll]; omega
theorem small_line {m : (List UInt8 × List UInt8) × Int × List UInt8} {d : DataW H} (h : st3Q (st2Q (fun s d => d = .lit (.string s) ∧ s.length ≤ maxLen) (fun s d => d = .lit (.string s) ∧ s.length ≤ maxLen)) (fun (n : Int) d => d = .lit (.int .i64 n) ∧ (Lit.int .i64 n).wf = true) (fun s d => d = .lit (.string s) ∧ s.length ≤ maxLen) m d) : m.1.1.length + m.1.2.length + m.2.2.length ≤ Rows.uptoBulk d := by
  obtain ⟨d0, d1, d2, rfl, q0, q1, q2⟩ := h
  have := small_mod q0
  have := small_str q2
  simp only [Rows.uptoBulk, Rows.uptoBulkAll]; omega
end
end Go.Proofs.YtoofpdaplnjmdaaGreatDoor
end
section
/- The frame of SumfileMerged: from the evaluation to the given statement. -/
namespace Go.Proofs.YtoofpdaplnjmdaaGreatDoor.sumfileMerged
open Go Go.AI Go.ChangeShapes Go.WideShapes Go.ChangeAt Go.RowKit
set_option linter.unusedVariables false

theorem own : ownKnob Tryz.prog.godebug = none := by kernel_rfl
theorem mixed : Tryz.prog.follows .mixedOrders = true := by kernel_rfl
theorem laidOut : laidOutB Tryz.prog = true := by kernel_rfl

theorem walk (a0 : List ((List UInt8 × List UInt8) × Int × List UInt8)) (a1 : List ((List UInt8 × List UInt8) × Int × List UInt8)) (v0 v1 : Value) (W : World) (hl : Go.Proofs.Tryz.Ai.LaidAll W) (r0 : Rep W.heap.size gh0 W v0 (.sl .sh (a0.map fun m => .agg [.str m.1.1, .str m.1.2, .int .i64 m.2.1, .str m.2.2]))) (r1 : Rep W.heap.size gh0 W v1 (.sl .sh (a1.map fun m => .agg [.str m.1.1, .str m.1.2, .int .i64 m.2.1, .str m.2.2])))
    (he : Go.Proofs.Tryz.Ai.ev 4 [.sl .sh (a0.map fun m => .agg [.str m.1.1, .str m.1.2, .int .i64 m.2.1, .str m.2.2]), .sl .sh (a1.map fun m => .agg [.str m.1.1, .str m.1.2, .int .i64 m.2.1, .str m.2.2])] [] = some (.bool true, [])) :
    Calls Tryz.prog 4 #[v0, v1] W fun e w' => e = .returned (.bool true) ∧ Below W.heap.size W w' :=
  Go.AI.top (s' := []) mixed rfl (Go.Proofs.Tryz.Ai.T_ok hl) (by rfl)
    (fun j c h => by
      match j, h with
      | 0, h => simp at h; subst h; exact ⟨r0, rfl, rfl⟩
      | 1, h => simp at h; subst h; exact ⟨r1, rfl, rfl⟩
      | j + 2, h => simp at h)
    he

/-- the table of powers, as the row lays it -/
theorem laid_of {W : World} (hL : laidMet Tryz.prog Rows.sumfileMergedUptoRow.laid W) : Go.Proofs.Tryz.Ai.Laid W :=
  tabIs_of_mem (g := 5) (t := 260) (e := 226) (n := 20) (by
    have : ("internal/strconv.uint64pow10", Rows.laid_internal_strconv_uint64pow10) ∈ Rows.sumfileMergedUptoRow.laid := by simp [Rows.sumfileMergedUptoRow]
    have e : (Rows.laid_internal_strconv_uint64pow10 : DataW Unit) = Lib.tabData .u64 Lib.pow10Tab := by kernel_rfl
    rw [e] at this; exact this) (by kernel_rfl) (by kernel_rfl) Tryz.underlying260 Tryz.underlying226 (by kernel_rfl) (by kernel_rfl) hL

/-- what a row lays, and what each world has -/
theorem all_of {W : World} (hL : laidMet Tryz.prog Rows.sumfileMergedUptoRow.laid W) (hsh : W.ShapedOpen Tryz.prog) : Go.Proofs.Tryz.Ai.LaidAll W where
  tab := laid_of hL
  max := Go.Proofs.Tryz.Ai.maxLen_of hsh
  esyn := Go.Proofs.Tryz.Ai.errAt_of (g := 3) (Go.Proofs.Tryz.Ai.laidMet_drop 5 hL) (by kernel_rfl) (by kernel_rfl)
  eran := Go.Proofs.Tryz.Ai.errAt_of (g := 4) (Go.Proofs.Tryz.Ai.laidMet_drop 4 hL) (by kernel_rfl) (by kernel_rfl)

theorem readable : ∀ t ∈ Tryz.f4.params.toList, Tryz.prog.readableRec t = true ∧ t < Tryz.prog.types.size := by
  rw [Tryz.params4]
  intro t ht
  simp only [List.mem_cons, List.mem_nil_iff, or_false] at ht
  rcases ht with rfl | rfl <;> exact ⟨by kernel_rfl, of_decide_eq_true (by kernel_rfl)⟩

set_option maxRecDepth 100000 in
theorem contract (H : Type) (enc : TypeId × Value → H) (W : World) (base : Nat) (args : Array Value) (ds gs : List (DataW H)) (before : List MemPlace)
    (hval : ∀ (j : Nat) t v, Tryz.f4.params[j]? = some t → args[j]? = some v → Value.okWide Tryz.prog W .any base t v)
    (hW : DataW.Whole enc Tryz.prog Tryz.f4.params.toList Rows.sumfileMergedSpec.vars false W args.toList ds gs before) (hcond : ∀ k, (Rows.OpenSpec.upto Rows.sumfileMergedSpec).cond = some k → k H (ds ++ gs) = true) (hl : Go.Proofs.Tryz.Ai.LaidAll W) :
    Calls Tryz.prog 4 args W fun e W' => ∃ v, e = .returned v ∧ Rows.sumfileMergedSpec.post enc Tryz.prog Tryz.f4 false true false false W args v W' := by
  have hW' := hW
  obtain ⟨p, q, hA0, hV, rfl, hfz, hnd⟩ := hW
  have hA : DataW.TrodAll enc Tryz.prog W 0 (fun _ => true) true Tryz.f4.params.toList args.toList ds p := hA0
  have hAk := hA
  rw [Tryz.params4] at hA hval
  obtain ⟨v0, vs0, d0, ds0, p0, q0, hargs0, rfl, rfl, h0, r0⟩ := trodAll_cons hA
  obtain ⟨v1, vs1, d1, ds1, p1, q1, hargs1, rfl, rfl, h1, r1⟩ := trodAll_cons r0
  obtain ⟨e1, e2, e3⟩ := trodAll_nil r1
  obtain rfl : args = #[v0, v1] := by cases args; simp_all
  subst e2 e3
  obtain ⟨rfl, rfl⟩ := trodVars_none hV
  obtain ⟨a0, Q0, R0, _⟩ := (Reads.slice (Reads.struct3 (Reads.struct2 (Reads.str Tryz.underlying9 (by kernel_rfl)) (Reads.str Tryz.underlying9 (by kernel_rfl)) Tryz.underlying24 (by rfl) (by kernel_rfl) (by kernel_rfl)) (Reads.int Tryz.underlying3 (by kernel_rfl)) (Reads.str Tryz.underlying9 (by kernel_rfl)) Tryz.underlying42 (by rfl) (by kernel_rfl) (by kernel_rfl) (by kernel_rfl)) Tryz.underlying22 (by kernel_rfl)).arg1 (enc := enc) (W := W) (fun _ => rfl) (by kernel_rfl) (hval 0 22 v0 rfl rfl) h0
  obtain ⟨a1, Q1, R1, _⟩ := (Reads.slice (Reads.struct3 (Reads.struct2 (Reads.str Tryz.underlying9 (by kernel_rfl)) (Reads.str Tryz.underlying9 (by kernel_rfl)) Tryz.underlying24 (by rfl) (by kernel_rfl) (by kernel_rfl)) (Reads.int Tryz.underlying3 (by kernel_rfl)) (Reads.str Tryz.underlying9 (by kernel_rfl)) Tryz.underlying42 (by rfl) (by kernel_rfl) (by kernel_rfl) (by kernel_rfl)) Tryz.underlying22 (by kernel_rfl)).arg1 (enc := enc) (W := W) (fun _ => rfl) (by kernel_rfl) (hval 1 22 v1 rfl rfl) h1
  have hb : Rows.uptoBulkAll ([d0, d1] ++ []) ≤ 1048576 := of_decide_eq_true (hcond _ rfl)
  simp only [List.append_nil, Rows.uptoBulkAll] at hb
  have s0 : a0.length ≤ 1048576 ∧ ∀ m ∈ a0, m.1.1.length ≤ 1048576 ∧ m.1.2.length ≤ 1048576 ∧ m.2.2.length ≤ 1048576 := by have := slq_small (f := fun m => m.1.1.length + m.1.2.length + m.2.2.length) Q0 (fun a x h => small_line h); exact ⟨by omega, fun s hs => by have := this.2 s hs; omega⟩
  have s1 : a1.length ≤ 1048576 ∧ ∀ m ∈ a1, m.1.1.length ≤ 1048576 ∧ m.1.2.length ≤ 1048576 ∧ m.2.2.length ≤ 1048576 := by have := slq_small (f := fun m => m.1.1.length + m.1.2.length + m.2.2.length) Q1 (fun a x h => small_line h); exact ⟨by omega, fun s hs => by have := this.2 s hs; omega⟩
  have hlt : ∀ x ∈ (p0 ++ p1 : List MemPlace), True := fun _ _ => trivial
  refine (walk a0 a1 v0 v1 W hl R0 R1 (by have := Go.Proofs.Tryz.Ai.mergedLaw_eq a0 a1 s0 s1 []; exact this)).mono fun e W' ⟨he, bel⟩ => ?_
  subst he
  exact ⟨_, rfl, _, _, _, [], _, [], hW', trodAll_mk1 (shut_bool Tryz.underlying4 _), trodAll_keep laidOut bel readable hAk (fun x hx => by simpa using hW'.lt x (by simpa using hx)), rfl, bel.frame _, fun h => by cases h⟩

noncomputable def laidWorld (os : Os) : World := World.laidAll Tryz.prog os Rows.sumfileMergedUptoRow.laid
theorem laid_met (os : Os) : laidMet Tryz.prog Rows.sumfileMergedUptoRow.laid ((laidWorld os).forCall (fun _ _ => 0) ⟨#[], #[.slice none 0 0, .slice none 0 0], []⟩).memory :=
  laidMet_laidAll _ (by kernel_rfl) (by kernel_rfl)
theorem reads (os : Os) {H : Type} (enc : TypeId × Value → H) : ∃ places, DataW.whole enc Tryz.prog ((laidWorld os).forCall (fun _ _ => 0) ⟨#[], #[.slice none 0 0, .slice none 0 0], []⟩).memory Tryz.f4.params.toList Rows.sumfileMergedSpec.vars false (#[.slice none 0 0, .slice none 0 0] : Array Value).toList 8 = some ([.nil, .nil], [], places) :=
  ⟨[], by kernel_rfl⟩
theorem witness (os : Os) {H : Type} (enc : TypeId × Value → H) : ∃ (w : World) (tape : Tape) (i : Input), w.os = os ∧ (w.forCall tape i).Shaped Tryz.checked.prog ∧ i.vars = [] ∧ Input.okWide Tryz.checked.prog (w.forCall tape i) .any w.heap.size 4 i ∧
    (Rows.OpenSpec.upto Rows.sumfileMergedSpec).preRow enc Tryz.checked.prog Tryz.f4 Rows.sumfileMergedUptoRow.domain false Rows.sumfileMergedUptoRow.laid (w.forCall tape i).memory i.args ∧ ({} : Assume).holds Tryz.checked.prog (lone (Frame.enter Tryz.checked.prog 4 i.args .normal) [] (w.forCall tape i)) := by
  obtain ⟨places, hx⟩ := reads os enc
  have hok : Input.okWideB Tryz.checked.prog ((laidWorld os).forCall (fun _ _ => 0) ⟨#[], #[.slice none 0 0, .slice none 0 0], []⟩) 4 ⟨#[], #[.slice none 0 0, .slice none 0 0], []⟩ = true := by kernel_rfl
  exact ⟨laidWorld os, fun _ _ => 0, ⟨#[], #[.slice none 0 0, .slice none 0 0], []⟩, World.laidAll_os _ _ _, World.shaped_of_ZipB (by kernel_rfl) (by kernel_rfl), (Input.okWide_of_okWideB (base := 0) hok).1, (Input.okWide_of_okWideB hok).2,
    OpenSpec.preRow_of_cond 8 hx (by kernel_rfl) (fun k hk => by have e : k = Rows.uptoSmall := (Option.some.inj (show some Rows.uptoSmall = some k from hk)).symm; rw [e]; simp [Rows.uptoSmall, Rows.uptoBulkAll, Rows.uptoBulk]) (by kernel_rfl) (laid_met os), by
    simp only [Assume.holds]
    exact ⟨by simp, by simp, fun _ => Modest.zero, by simp, by simp⟩⟩

set_option maxRecDepth 100000 in
theorem lifted (os : Os) (started : os.Started) (H : Type) (enc : TypeId × Value → H) (F : Stop.Interp) :
    ReturnsInHanded {} Tryz.checked os 4 .any ((Rows.OpenSpec.upto Rows.sumfileMergedSpec).preRow enc Tryz.prog Tryz.f4 Rows.sumfileMergedUptoRow.domain false Rows.sumfileMergedUptoRow.laid) (((Rows.OpenSpec.upto Rows.sumfileMergedSpec).at F).post enc Tryz.prog Tryz.f4 false true false false) := by
  refine returnsInHanded_of_row (C := Tryz.checked) (s := (Rows.OpenSpec.upto Rows.sumfileMergedSpec)) own started (by kernel_rfl) Tryz.func4 (witness os enc) ?_
  intro W base args ds gs before hval hW _ hcond _ hL hsh _
  exact contract H enc W base args ds gs before hval hW hcond (all_of (by rw [← MakeChecks.laidMetH_plain _ _ _ (by kernel_rfl)]; exact hL) hsh)

theorem said : Rows.SumfileMergedUptoSaid :=
  OpenClaim.holds_of_cond 4 Tryz.f4 rfl rfl rfl rfl rfl rfl rfl ⟨rfl, rfl, rfl, rfl, rfl⟩ rfl rfl rfl rfl rfl (by kernel_rfl) Tryz.func4 (by kernel_rfl)
    (of_decide_eq_true (by kernel_rfl)) (by unfold Func.isWrapper; first | (rw [if_pos (by decide +kernel)]; kernel_rfl) | (rw [if_neg (by decide +kernel)]; exact ⟨rfl, rfl⟩))
    (fun os started H enc _ F => by rw [OpenClaim.pre_eq_preRow]; exact lifted os started H enc F)

theorem plain (f : FuncId) (fn : Func) (hf : Tryz.pinned.checked.prog.funcNamed "mews/mewslaw5.SumfileMerged" = some f) (hfn : Tryz.pinned.checked.prog.funcs[f]? = some fn) :
    true = Tryz.pinned.checked.prog.looks [] ∧ ∀ (j : Nat) t, fn.params[j]? = some t → Tryz.pinned.checked.prog.wantsStandIn t = false := by
  obtain rfl : f = 4 := Option.some.inj ((show Tryz.prog.funcNamed "mews/mewslaw5.SumfileMerged" = some 4 by kernel_rfl).symm.trans hf) |>.symm
  obtain rfl : fn = Tryz.f4 := (Option.some.inj (Tryz.func4.symm.trans hfn)).symm
  refine ⟨by kernel_rfl, fun j t ht => ?_⟩
  have hm : t ∈ Tryz.f4.params.toList := Array.mem_toList_iff.2 (Array.mem_of_getElem? ht)
  rw [Tryz.params4] at hm
  simp only [List.mem_cons, List.mem_nil_iff, or_false] at hm
  rcases hm with rfl | rfl
  · exact (show Tryz.prog.wantsStandIn 22 = false by kernel_rfl)
  · exact (show Tryz.prog.wantsStandIn 22 = false by kernel_rfl)

/-- the card -/
theorem card : Rows.SumfileMergedUptoCardSaid :=
  Claim7.holds_tied_plain_at .later [] _ _ _ _ said (fun _ h => by cases h) (by kernel_rfl) (fun _ h => by cases h) sumfileMergedUpto_row_tie rfl ⟨rfl, rfl⟩ (by kernel_rfl) rfl plain (by kernel_rfl)
end Go.Proofs.YtoofpdaplnjmdaaGreatDoor.sumfileMerged
end
