/- Part 7 of a proof: a Go function is evaluated on abstract values (texts LPaths7 .. FPaths7); no conditions beyond those of each theorem. -/
import Derived.Test.YtmikahmnomfacaaDoorAi6
import Derived.Test.YtmikahmnomfacaaDoorCards
import Derived.Test.YtmikahmnomfacaaDoorTie
import Derived.WalkKit
import Derived.ProofKit
import Derived.OpenShut
import Derived.Below
import Derived.ChangeOld
import Derived.Deep.DeepHandedRow
import Derived.Lib.LaidTab
import Derived.Lay
import Derived.MakeChecks
set_option linter.all false
set_option linter.unusedVariables false
set_option linter.unusedSimpArgs false
set_option linter.unnecessarySimpa false
section
/- TlogPaths: the evaluation. -/
namespace Go.Proofs.Tryd.Ai
open Go Go.AI Go.Proofs
set_option maxHeartbeats 8000000
set_option maxRecDepth 4000
set_option linter.unusedVariables false

section
variable {P : Program} {h : Hint} {C : Oracle}
theorem PostD_no1 {ds : List Nat} {ops r : List Oper} {st : St} {o : Oper} {K : St → Prop} (st1 : St) (hw : wantedA ops o.guard st = some false) (hq : okAll ds st.t (tkT h o).toList = true)
    (hs : st.put o.dst (.tup []) = st1) (k : PostD (runD P h C ds ops r st1) K) : PostD (runD P h C ds ops (o :: r) st) K := PostD_no hw hq (by rw [hs]; exact k)
end
theorem pmod_in (i : Int) (n : Nat) (h : 0 < n) (hn : n ≤ 2 ^ 30) : ∃ k : Nat, k < n ∧ (IntKind.i64.wrap (i.tmod n + n)).tmod n = (k : Int) := by
  have h1 := Int.tmod_lt_of_pos i (b := n) (by omega)
  have h2 : -(n : Int) < i.tmod n := by
    have := Int.tmod_lt_of_pos (-i) (b := n) (by omega)
    rw [Int.neg_tmod] at this; omega
  rw [wrap64 (by omega), Int.tmod_eq_emod_of_nonneg (by omega)]
  have h3 := Int.emod_nonneg (i.tmod n + n) (b := n) (by omega)
  have h4 := Int.emod_lt_of_pos (i.tmod n + n) (b := n) (by omega)
  exact ⟨((i.tmod n + n) % n).toNat, by omega, by omega⟩
def hasS (l : List (List UInt8)) (s : List UInt8) : Bool := l.any fun x => x == s
theorem hasS_take (l : List (List UInt8)) (s : List UInt8) (i : Nat) (h : ∀ j x, j < i → l[j]? = some x → (x == s) = false) (hi : l.length ≤ i) : hasS l s = false := by
  unfold hasS
  rw [List.any_eq_false]
  intro x hx
  obtain ⟨j, hj⟩ := List.mem_iff_getElem?.1 hx
  have hl := (List.getElem?_eq_some_iff.1 hj).1
  rw [h j x (by omega) hj]; simp
theorem Has_eq (l : List (List UInt8)) (s : List UInt8) (hl : l.length ≤ 2 ^ 40) (σ) : ev 9 [.sl .sh (l.map .str), .str s] σ = some (.bool (hasS l s), σ) := by
  refine EV_post rfl Tryd.func9 rfl (by simp [Tryd.ntmps9]) (by kernel_rfl) (by kernel_rfl) ?_
  simp (maxSteps := 4000000) [List.getElem?_cons_zero, List.getElem?_cons_succ, ]
  refine Post_loop (I := fun i : Nat => ⟨[(0, .sl .sh (l.map .str)), (1, .str s), (5, .int .i64 i)], [], σ⟩) (Pr := fun i => i ≤ l.length ∧ ∀ j x, j < i → l[j]? = some x → (x == s) = false) (μ := fun i => l.length - i) (a := 0) (by simp) (by simp) ?_
  rintro i ⟨hi, hn⟩
  have w1 : IntKind.i64.wrap ((i : Int) + 1) = (i : Int) + 1 := wrap64 (by omega)
  by_cases hc : i < l.length
  · obtain ⟨x, hx⟩ : ∃ x, l[i]? = some x := ⟨_, List.getElem?_eq_getElem hc⟩
    cases he : (x == s) with
    | true =>
      have : hasS l s = true := List.any_eq_true.2 ⟨x, List.mem_of_getElem? hx, he⟩
      simp (maxSteps := 4000000) [List.getElem?_cons_zero, List.getElem?_cons_succ, -getElem?_pos, hc, hx, he, this, Tryd.results9]
    | false =>
      simp (maxSteps := 4000000) [List.getElem?_cons_zero, List.getElem?_cons_succ, -getElem?_pos, -beq_eq_false_iff_ne, hc, hx, he, w1]
      refine ⟨i + 1, ⟨by omega, fun j y hj hy => ?_⟩, by omega, by simp⟩
      rcases (by omega : j < i ∨ j = i) with q | rfl
      · exact hn j y q hy
      · rw [hx] at hy; injection hy with hy; subst hy; exact he
  · have : hasS l s = false := hasS_take l s i hn (by omega)
    simp (maxSteps := 4000000) [List.getElem?_cons_zero, List.getElem?_cons_succ, hc, this, Tryd.results9]
def pOf (h : Nat) (y : T3) : List UInt8 := pathT h y.1 y.2.1 y.2.2
def sumT (l : List T3) : Nat := (l.map fun y => y.2.2).sum
theorem sumT_snoc (l : List T3) (y : T3) : sumT (l ++ [y]) = sumT l + y.2.2 := by simp [sumT]
theorem sumT_take (l : List T3) (i : Nat) : sumT (l.take i) ≤ sumT l := by
  have := congrArg sumT (List.take_append_drop i l)
  unfold sumT at this ⊢
  rw [List.map_append, List.sum_append] at this
  omega
theorem sumD_le (h n j : Nat) : sumD h n j ≤ j * n := by
  induction j with
  | zero => simp [sumD]
  | succ j ih =>
    rw [sumD, Nat.succ_mul]
    have := Nat.div_le_self n (2 ^ (h * j))
    omega
def widB (y z : T3) : Bool := z.1 == y.1 && z.2.1 == y.2.1 && decide (y.2.2 ≤ z.2.2)
def widA (l : List T3) (y : T3) : Bool := l.any (widB y)
theorem widA_snoc (l : List T3) (y z : T3) : widA (l ++ [z]) y = (widA l y || widB y z) := by simp [widA]
def pw2 (L : Nat) : Nat := 2 ^ L
theorem pathsLaw_eq (H N M : Int) (σ) : ev 3 [.int .i64 H, .int .i64 N, .int .i64 M] σ = some (.bool true, σ) := by
  have hF := first_eq
  have hNum : ∀ n σ, ev 6 [.int .i64 n] σ = some (.int .i64 n, σ) := fun n σ => Num_eq n σ
  obtain ⟨h0, hh0, hhm0⟩ := pmod_in H 8 (by omega) (by omega)
  obtain ⟨n, hn, hnm0⟩ := pmod_in N 2000 (by omega) (by omega)
  obtain ⟨m, hm, hmm0⟩ := pmod_in M 100 (by omega) (by omega)
  have hhm : (IntKind.i64.wrap (H.tmod 8 + 8)).tmod 8 = (h0 : Int) := hhm0
  have hnm : (IntKind.i64.wrap (N.tmod 2000 + 2000)).tmod 2000 = (n : Int) := hnm0
  have hmm : (IntKind.i64.wrap (M.tmod 100 + 100)).tmod 100 = (m : Int) := hmm0
  have w1 : IntKind.i64.wrap ((h0 : Int) + 1) = ((h0 + 1 : Nat) : Int) := by rw [wrap64 (by omega)]; omega
  have w2 : IntKind.i64.wrap ((n : Int) + m) = ((n + m : Nat) : Int) := by rw [wrap64 (by omega)]; omega
  obtain ⟨x, hx⟩ : ∃ x, h0 + 1 = x := ⟨_, rfl⟩
  rw [hx] at w1
  have hT := Tiles_eq x n
  have hT2 := Tiles_eq x ((n + m : Nat) : Int)
  have q1 : tilesQ x n = ((tlist x n 21).map (tAV x), 0) := by unfold tilesQ; rw [if_pos (by omega)]; simp only [Int.toNat_natCast, tilesN_tlist]
  have q2 : tilesQ x ((n + m : Nat) : Int) = ((tlist x (n + m) 21).map (tAV x), 0) := by unfold tilesQ; rw [if_pos (by omega)]; simp only [Int.toNat_natCast, tilesN_tlist]
  rw [q1] at hT
  rw [q2] at hT2
  simp only at hT hT2
  have hpw := tlist_pw x n 21
  have htile := fun y hy => tlist_tile (h := x) (n := n) (by omega) (by omega) (by omega) (x := y) hy
  have hmore := fun y hy => tlist_more (h := x) (n := n) (m := m) (x := y) hy
  have hsum : sumT (tlist x n 21) = sumD x n 21 := tlist_sum x n 21
  have hsl := sumD_le x n 21
  have hl1 := tlist_len x n 21
  have hl2 := tlist_len x (n + m) 21
  have hW := fun L hL h21 => sumW_all x n L (by omega) hL h21
  obtain ⟨nm, hnm2⟩ : ∃ y, n + m = y := ⟨_, rfl⟩
  rw [hnm2] at w2 hT2 hl2
  simp only [hnm2] at hmore
  obtain ⟨T, hTT⟩ : ∃ T, tlist x n 21 = T := ⟨_, rfl⟩
  rw [hTT] at hT hpw hsum hl1
  simp only [hTT] at htile hmore
  obtain ⟨T2, hTT2⟩ : ∃ T, tlist x nm 21 = T := ⟨_, rfl⟩
  rw [hTT2] at hT2 hl2
  simp only [hTT2] at hmore
  have hx8 : 1 ≤ x ∧ x ≤ 8 := by omega
  clear q1 q2 hhm0 hnm0 hmm0 hTT hTT2
  refine EV_post rfl Tryd.func3 rfl (by simp [Tryd.ntmps3]) (by kernel_rfl) (by kernel_rfl) ?_
  simp (maxSteps := 4000000) [List.getElem?_cons_zero, List.getElem?_cons_succ, hF, hhm, hnm, hmm, w1, w2, hT, hT2, hNum]
  refine Post_loop (I := fun i : Nat => ⟨[(0, .int .i64 x), (1, .int .i64 n), (8, .sl .sh (T.map (tAV x))), (10, .sl .sh (T2.map (tAV x))), (12, .sl (.ex 9 1) (((T.take i).map (pOf x)).map .str)), (13, .int .i64 (sumT (T.take i))), (14, .int .i64 i)], [], σ⟩)
    (Pr := fun i => i ≤ T.length) (μ := fun i => T.length - i) (a := 0) (by simp [sumT]) (by simp) ?_
  intro i hi
  have w3 : IntKind.i64.wrap ((i : Int) + 1) = (i : Int) + 1 := wrap64 (by omega)
  have hst := sumT_take T i
  have hlp : ((T.take i).map (pOf x)).length = i := by simp; omega
  by_cases hc : i < T.length
  · obtain ⟨y, hy⟩ : ∃ y, T[i]? = some y := ⟨_, List.getElem?_eq_getElem hc⟩
    have hym := List.mem_of_getElem? hy
    obtain ⟨ht, hy256⟩ := htile y hym
    have htk : T.take (i + 1) = T.take i ++ [y] := by rw [List.take_add_one, hy]; rfl
    obtain ⟨b1, b2, b3, b4, b5, b6, b7⟩ := tile_bound ht
    have hPa := Path_eq x y.1 y.2.1 y.2.2
    have hq : pathQ x y.1 y.2.1 y.2.2 = (pOf x y, 0) := by unfold pathQ; rw [if_pos ht]; rfl
    rw [hq] at hPa
    have hPl := pathT_len (H := x) (L := y.1) (N := y.2.1) (W := y.2.2) b2 b3 (by omega) b6
    have hPP := ParsePath_eq (pOf x y) (Nat.le_trans hPl (by omega))
    rw [parT_yes (⟨ht, rfl⟩ : IsT (pOf x y) (x, y.1, y.2.1, y.2.2))] at hPP
    simp only [tileQ] at hPP
    -- unlike all ahead
    have hno : hasS ((T.take i).map (pOf x)) (pOf x y) = false := by
      refine hasS_take _ _ i (fun j p hj hp => ?_) (by rw [hlp]; omega)
      rw [List.getElem?_map, List.getElem?_take, if_pos hj] at hp
      obtain ⟨z, hz⟩ : ∃ z, T[j]? = some z := ⟨_, List.getElem?_eq_getElem (by omega)⟩
      rw [hz] at hp
      injection hp with hp
      have hu := List.pairwise_iff_getElem.1 hpw j i (by omega) hc hj
      rw [(List.getElem?_eq_some_iff.1 hz).2, (List.getElem?_eq_some_iff.1 hy).2] at hu
      rw [beq_eq_false_iff_ne, ← hp]
      intro e
      have hz4 := (tile_bound (htile z (List.mem_of_getElem? hz)).1).2.2.2.1
      obtain ⟨_, e2, e3, _⟩ := path_inj (by omega) (by omega) e
      rcases hu with q | q
      · exact q e2
      · exact q e3
    have hHas := Has_eq ((T.take i).map (pOf x)) (pOf x y) (by rw [hlp]; omega)
    rw [hno] at hHas
    have hwide : widA T2 y = true := by
      obtain ⟨z, hz, e1, e2, e3⟩ := hmore y hym
      exact List.any_eq_true.2 ⟨z, hz, by simp [widB, e1, e2, e3]⟩
    have hss := sumT_snoc (T.take i) y
    rw [← htk] at hss
    have hst2 := sumT_take T (i + 1)
    have w4 : IntKind.i64.wrap ((sumT (T.take i) : Int) + (y.2.2 : Int)) = (sumT (T.take (i + 1)) : Int) := by rw [wrap64 (by omega)]; omega
    have hmost : ((T.take i).map (pOf x)).length + 1 ≤ most := by rw [hlp]; unfold most; omega
    have hgi : (T.map (tAV x))[i]? = some (.agg [.int .i64 x, .int .i64 y.1, .int .i64 y.2.1, .int .i64 y.2.2]) := by rw [List.getElem?_map, hy]; rfl
    have hA : (((T.take i).map (pOf x)).map AV.str) ++ [AV.str (pOf x y)] = ((T.take (i + 1)).map (pOf x)).map AV.str := by rw [htk]; simp
    have hg2 : ∀ (j : Nat) (z : T3), T2[j]? = some z → (T2.map (tAV x))[j]? = some (AV.agg [.int .i64 x, .int .i64 z.1, .int .i64 z.2.1, .int .i64 z.2.2]) := fun j z hz => by rw [List.getElem?_map, hz]; rfl
    have hll1 : (T.map (tAV x)).length = T.length := by simp
    have hll2 : (T2.map (tAV x)).length = T2.length := by simp
    obtain ⟨y1, y2, y3⟩ := y
    simp only at hPa hPP hgi w4 hwide hA hHas
    obtain ⟨PT, hPT⟩ : ∃ p, pOf x (y1, y2, y3) = p := ⟨_, rfl⟩
    rw [hPT] at hPa hPP hHas hA
    obtain ⟨PL, hPL⟩ : ∃ p, (T.take i).map (pOf x) = p := ⟨_, rfl⟩
    rw [hPL] at hHas hmost hA hlp ⊢
    obtain ⟨PL2, hPL2⟩ : ∃ p, ((T.take (i + 1)).map (pOf x)).map AV.str = p := ⟨_, rfl⟩
    rw [hPL2] at hA
    obtain ⟨s1, hs1⟩ : ∃ s, sumT (T.take i) = s := ⟨_, rfl⟩
    obtain ⟨s2, hs2⟩ : ∃ s, sumT (T.take (i + 1)) = s := ⟨_, rfl⟩
    rw [hs1] at w4 hst hss ⊢
    rw [hs2] at w4 hst2 hss
    obtain ⟨A1, hA1⟩ : ∃ A, T.map (tAV x) = A := ⟨_, rfl⟩
    obtain ⟨A2, hA2⟩ : ∃ A, T2.map (tAV x) = A := ⟨_, rfl⟩
    rw [hA1] at hgi hll1 ⊢
    rw [hA2] at hll2 ⊢
    simp only [hA2] at hg2
    simp only [tileA] at hPa hPP
    have go : ∀ st : St, True := fun _ => trivial
    simp (maxSteps := 4000000) [List.getElem?_cons_zero, List.getElem?_cons_succ, -getElem?_pos, -regionA_true, hll1, hc, hgi, hPa, hPP]
    refine Post_bndD [] _ (by rfl) (by simp (maxSteps := 4000000) [List.getElem?_cons_zero, List.getElem?_cons_succ, ]; exact rfl) ?_
    repeat (first
      | refine PostD_go _ (by rfl) (by rfl) (by simp (maxSteps := 4000000) [List.getElem?_cons_zero, List.getElem?_cons_succ, -getElem?_pos, hNum, hgi]; exact rfl) (by first | exact .inl rfl | exact .inr rfl) (by rfl) ?_
      | refine PostD_no1 _ (by rfl) (by rfl) (by simp (maxSteps := 4000000) [List.getElem?_cons_zero, List.getElem?_cons_succ, ]; exact rfl) ?_)
    refine PostD_end ?_
    by_cases h60 : T.length < 60
    all_goals
      simp (maxSteps := 4000000) [List.getElem?_cons_zero, List.getElem?_cons_succ, -getElem?_pos, hll1, h60, hHas, hmost, hA, hgi, w4]
      refine Post_loop (I := fun j : Nat => ⟨[(0, .int .i64 x), (1, .int .i64 n), (8, .sl .sh A1), (10, .sl .sh A2), (12, .sl (.ex 9 1) PL2), (13, .int .i64 s2), (14, .int .i64 i), (19, .bool (widA (T2.take j) (y1, y2, y3))), (20, .int .i64 j)], [], σ⟩)
        (Pr := fun j => j ≤ T2.length) (μ := fun j => T2.length - j) (a := 0) (by simp [widA]) (by simp) ?_
      intro j hj
      have w5 : IntKind.i64.wrap ((j : Int) + 1) = (j : Int) + 1 := wrap64 (by omega)
      by_cases hjc : j < T2.length
      · obtain ⟨z, hz⟩ : ∃ z, T2[j]? = some z := ⟨_, List.getElem?_eq_getElem hjc⟩
        have htk2 : T2.take (j + 1) = T2.take j ++ [z] := by rw [List.take_add_one, hz]; rfl
        have hws := widA_snoc (T2.take j) (y1, y2, y3) z
        rw [← htk2] at hws
        have hgz := hg2 j z hz
        obtain ⟨z1, z2, z3⟩ := z
        have hwb : widB (y1, y2, y3) (z1, z2, z3) = (z1 == y1 && z2 == y2 && decide (y3 ≤ z3)) := rfl
        rw [hwb] at hws
        obtain ⟨B, hB⟩ : ∃ B, widA (T2.take j) (y1, y2, y3) = B := ⟨_, rfl⟩
        obtain ⟨B', hB'⟩ : ∃ B, widA (T2.take (j + 1)) (y1, y2, y3) = B := ⟨_, rfl⟩
        rw [hB, hB'] at hws
        rw [hB]
        cases B with
        | true =>
          have e : B' = true := by simpa using hws
          subst e
          simp (maxSteps := 4000000) [List.getElem?_cons_zero, List.getElem?_cons_succ, -getElem?_pos, -regionA_true, hll2, hjc]
          refine Post_bndD [] _ (by rfl) (by simp (maxSteps := 4000000) [List.getElem?_cons_zero, List.getElem?_cons_succ, ]; exact rfl) ?_
          repeat (first
            | refine PostD_go _ (by rfl) (by rfl) (by simp (maxSteps := 4000000) [List.getElem?_cons_zero, List.getElem?_cons_succ, -getElem?_pos]; exact rfl) (by first | exact .inl rfl | exact .inr rfl) (by rfl) ?_
            | refine PostD_no1 _ (by rfl) (by rfl) (by simp (maxSteps := 4000000) [List.getElem?_cons_zero, List.getElem?_cons_succ, ]; exact rfl) ?_)
          refine PostD_end ?_
          simp (maxSteps := 4000000) [List.getElem?_cons_zero, List.getElem?_cons_succ, w5]
          exact ⟨j + 1, by omega, by omega, by rw [hB']; simp⟩
        | false =>
          by_cases c1 : z1 = y1
          · by_cases c2 : z2 = y2
            · by_cases c3 : y3 ≤ z3
              · have e : B' = true := by rw [hws]; simp [c1, c2, c3]
                subst e c1 c2
                simp (maxSteps := 4000000) [List.getElem?_cons_zero, List.getElem?_cons_succ, -getElem?_pos, -regionA_true, hll2, hjc]
                refine Post_bndD [] _ (by rfl) (by simp (maxSteps := 4000000) [List.getElem?_cons_zero, List.getElem?_cons_succ, ]; exact rfl) ?_
                repeat (first
                  | refine PostD_go _ (by rfl) (by rfl) (by simp (maxSteps := 4000000) [List.getElem?_cons_zero, List.getElem?_cons_succ, -getElem?_pos, hgz, hgi, c3]; exact rfl) (by first | exact .inl rfl | exact .inr rfl) (by rfl) ?_
                  | refine PostD_no1 _ (by rfl) (by rfl) (by simp (maxSteps := 4000000) [List.getElem?_cons_zero, List.getElem?_cons_succ, ]; exact rfl) ?_)
                refine PostD_end ?_
                simp (maxSteps := 4000000) [List.getElem?_cons_zero, List.getElem?_cons_succ, w5]
                exact ⟨j + 1, by omega, by omega, by rw [hB']; simp⟩
              · have e : B' = false := by rw [hws]; simp [c3]
                subst e c1 c2
                simp (maxSteps := 4000000) [List.getElem?_cons_zero, List.getElem?_cons_succ, -getElem?_pos, -regionA_true, hll2, hjc]
                refine Post_bndD [] _ (by rfl) (by simp (maxSteps := 4000000) [List.getElem?_cons_zero, List.getElem?_cons_succ, ]; exact rfl) ?_
                repeat (first
                  | refine PostD_go _ (by rfl) (by rfl) (by simp (maxSteps := 4000000) [List.getElem?_cons_zero, List.getElem?_cons_succ, -getElem?_pos, hgz, hgi, c3]; exact rfl) (by first | exact .inl rfl | exact .inr rfl) (by rfl) ?_
                  | refine PostD_no1 _ (by rfl) (by rfl) (by simp (maxSteps := 4000000) [List.getElem?_cons_zero, List.getElem?_cons_succ, ]; exact rfl) ?_)
                refine PostD_end ?_
                simp (maxSteps := 4000000) [List.getElem?_cons_zero, List.getElem?_cons_succ, w5]
                exact ⟨j + 1, by omega, by omega, by rw [hB']; simp⟩
            · have e : B' = false := by rw [hws]; simp [c2]
              subst e c1
              simp (maxSteps := 4000000) [List.getElem?_cons_zero, List.getElem?_cons_succ, -getElem?_pos, -regionA_true, hll2, hjc]
              refine Post_bndD [] _ (by rfl) (by simp (maxSteps := 4000000) [List.getElem?_cons_zero, List.getElem?_cons_succ, ]; exact rfl) ?_
              repeat (first
                | refine PostD_go _ (by rfl) (by rfl) (by simp (maxSteps := 4000000) [List.getElem?_cons_zero, List.getElem?_cons_succ, -getElem?_pos, hgz, hgi, c2]; exact rfl) (by first | exact .inl rfl | exact .inr rfl) (by rfl) ?_
                | refine PostD_no1 _ (by rfl) (by rfl) (by simp (maxSteps := 4000000) [List.getElem?_cons_zero, List.getElem?_cons_succ, ]; exact rfl) ?_)
              refine PostD_end ?_
              simp (maxSteps := 4000000) [List.getElem?_cons_zero, List.getElem?_cons_succ, w5]
              exact ⟨j + 1, by omega, by omega, by rw [hB']; simp⟩
          · have e : B' = false := by rw [hws]; simp [c1]
            subst e
            simp (maxSteps := 4000000) [List.getElem?_cons_zero, List.getElem?_cons_succ, -getElem?_pos, -regionA_true, hll2, hjc]
            refine Post_bndD [] _ (by rfl) (by simp (maxSteps := 4000000) [List.getElem?_cons_zero, List.getElem?_cons_succ, ]; exact rfl) ?_
            repeat (first
              | refine PostD_go _ (by rfl) (by rfl) (by simp (maxSteps := 4000000) [List.getElem?_cons_zero, List.getElem?_cons_succ, -getElem?_pos, hgz, hgi, c1]; exact rfl) (by first | exact .inl rfl | exact .inr rfl) (by rfl) ?_
              | refine PostD_no1 _ (by rfl) (by rfl) (by simp (maxSteps := 4000000) [List.getElem?_cons_zero, List.getElem?_cons_succ, ]; exact rfl) ?_)
            refine PostD_end ?_
            simp (maxSteps := 4000000) [List.getElem?_cons_zero, List.getElem?_cons_succ, w5]
            exact ⟨j + 1, by omega, by omega, by rw [hB']; simp⟩
      · obtain rfl : j = T2.length := by omega
        rw [List.take_length, hwide]
        simp (maxSteps := 4000000) [List.getElem?_cons_zero, List.getElem?_cons_succ, hll2, w3]
        exact ⟨i + 1, by omega, by omega, by rw [hs2, ← hPL2]; simp⟩
  · obtain rfl : i = T.length := by omega
    rw [List.take_length] at hst ⊢
    have hll1 : (T.map (tAV x)).length = T.length := by simp
    rw [hsum]
    obtain ⟨SD, hSD⟩ : ∃ s, sumD x n 21 = s := ⟨_, rfl⟩
    simp only [hSD] at hW
    rw [hSD] at hsl ⊢
    obtain ⟨A1, hA1⟩ : ∃ A, T.map (tAV x) = A := ⟨_, rfl⟩
    rw [hA1] at hll1 ⊢
    simp (maxSteps := 4000000) [List.getElem?_cons_zero, List.getElem?_cons_succ, hll1]
    have hx0 : ¬ x = 0 := by omega
    refine Post_loop (I := fun L : Nat => ⟨[(0, .int .i64 x), (1, .int .i64 n), (13, .int .i64 SD), (21, .int .i64 (sumW x n L)), (22, .int .i64 (pw2 L)), (23, .int .i64 L)], [], σ⟩)
      (Pr := fun L => L ≤ 21 ∧ sumW x n L ≤ L * 2000) (μ := fun L => 21 - L) (a := 0) (by simp [sumW, pw2]) (by simp [sumW]) ?_
    rintro L ⟨hL, hsw⟩
    have hp : pw2 L ≤ 2 ^ 21 := Nat.pow_le_pow_right (by omega) hL
    have hp0 : 0 < pw2 L := Nat.two_pow_pos _
    have hsn : sumW x n (L + 1) = sumW x n L + if L % x = 0 then n / pw2 L else 0 := rfl
    have hp2 : pw2 (L + 1) = 2 * pw2 L := by unfold pw2; rw [Nat.pow_succ]; omega
    have hdl : n / pw2 L ≤ n := Nat.div_le_self _ _
    have w6 : IntKind.i64.wrap ((L : Int) + 1) = (L : Int) + 1 := wrap64 (by omega)
    have r1 : (L : Int).tmod x = ((L % x : Nat) : Int) := by rw [Int.tmod_eq_emod_of_nonneg (by omega)]; simp
    have d1 : (n : Int).tdiv (pw2 L : Int) = ((n / pw2 L : Nat) : Int) := by rw [Int.tdiv_eq_ediv_of_nonneg (by omega)]; simp
    have hW' : n < pw2 L → L ≤ 21 → sumW x n L = SD := hW L
    by_cases c1 : L ≤ 20
    · by_cases c2 : pw2 L ≤ n
      · obtain ⟨P, hP⟩ : ∃ P, pw2 L = P := ⟨_, rfl⟩
        rw [hP] at hp hp0 hsn hp2 hdl d1 c2 ⊢
        obtain ⟨D, hD⟩ : ∃ D, n / P = D := ⟨_, rfl⟩
        rw [hD] at hsn hdl d1
        have w7 : IntKind.i64.wrap (2 * (P : Int)) = ((2 * P : Nat) : Int) := by rw [wrap64 (by omega)]; omega
        have w8 : IntKind.i64.wrap (D : Int) = (D : Int) := wrap64 (by omega)
        obtain ⟨S, hS⟩ : ∃ S, sumW x n L = S := ⟨_, rfl⟩
        rw [hS] at hsn hsw ⊢
        have w9 : IntKind.i64.wrap ((S : Int) + (D : Int)) = ((S + D : Nat) : Int) := by rw [wrap64 (by omega)]; omega
        have hP0 : ¬ P = 0 := by omega
        obtain ⟨S', hS'⟩ : ∃ S, sumW x n (L + 1) = S := ⟨_, rfl⟩
        rw [hS'] at hsn
        obtain ⟨P', hP'⟩ : ∃ P, pw2 (L + 1) = P := ⟨_, rfl⟩
        rw [hP'] at hp2
        rw [← hp2] at w7
        obtain ⟨r, hr⟩ : ∃ r, L % x = r := ⟨_, rfl⟩
        rw [hr] at hsn r1
        by_cases c3 : r = 0
        · rw [if_pos c3] at hsn
          rw [← hsn] at w9
          simp (maxSteps := 4000000) [List.getElem?_cons_zero, List.getElem?_cons_succ, c1, c2, hx0, r1, c3, hP0, d1, w8, w9, w7, w6]
          exact ⟨L + 1, ⟨by omega, by omega⟩, by omega, by rw [hS', hP']; simp⟩
        · rw [if_neg c3] at hsn
          simp (maxSteps := 4000000) [List.getElem?_cons_zero, List.getElem?_cons_succ, c1, c2, hx0, r1, c3, w7, w6]
          exact ⟨L + 1, ⟨by omega, by omega⟩, by omega, by rw [hS', hP', hsn]; simp⟩
      · have e := hW' (by omega) hL
        rw [e]
        obtain ⟨P, hP⟩ : ∃ P, pw2 L = P := ⟨_, rfl⟩
        rw [hP] at c2 ⊢
        simp (maxSteps := 4000000) [List.getElem?_cons_zero, List.getElem?_cons_succ, c1, c2, Tryd.results3]
    · have e := hW' (by have : 2 ^ 21 ≤ pw2 L := Nat.pow_le_pow_right (by omega) (by omega); omega) hL
      rw [e]
      obtain ⟨P, hP⟩ : ∃ P, pw2 L = P := ⟨_, rfl⟩
      rw [hP]
      simp (maxSteps := 4000000) [List.getElem?_cons_zero, List.getElem?_cons_succ, c1, Tryd.results3]
end Go.Proofs.Tryd.Ai
end
section
/- The frame of TlogPaths: from the evaluation to the given statement. -/

namespace Go.Proofs.YtmikahmnomfacaaDoor.tlogPaths
open Go Go.AI Go.ChangeShapes Go.WideShapes Go.ChangeAt Go.RowKit
set_option linter.unusedVariables false

theorem own : ownKnob Tryd.prog.godebug = none := by kernel_rfl
theorem mixed : Tryd.prog.follows .mixedOrders = true := by kernel_rfl
theorem laidOut : laidOutB Tryd.prog = true := by kernel_rfl

theorem walk (a0 : Int) (a1 : Int) (a2 : Int) (v0 v1 v2 : Value) (W : World) (hl : Go.Proofs.Tryd.Ai.LaidAll W) (r0 : Rep W.heap.size gh0 W v0 (.int .i64 a0)) (r1 : Rep W.heap.size gh0 W v1 (.int .i64 a1)) (r2 : Rep W.heap.size gh0 W v2 (.int .i64 a2))
    (he : Go.Proofs.Tryd.Ai.ev 3 [.int .i64 a0, .int .i64 a1, .int .i64 a2] [] = some (.bool true, [])) :
    Calls Tryd.prog 3 #[v0, v1, v2] W fun e w' => e = .returned (.bool true) ∧ Below W.heap.size W w' :=
  Go.AI.top (s' := []) mixed rfl (Go.Proofs.Tryd.Ai.T_ok hl) (by rfl)
    (fun j c h => by
      match j, h with
      | 0, h => simp at h; subst h; exact ⟨r0, rfl, rfl⟩
      | 1, h => simp at h; subst h; exact ⟨r1, rfl, rfl⟩
      | 2, h => simp at h; subst h; exact ⟨r2, rfl, rfl⟩
      | j + 3, h => simp at h)
    he

/-- the table of powers, as the row lays it -/
theorem laid_of {W : World} (hL : laidMet Tryd.prog Rows.tlogPathsRow.laid W) : Go.Proofs.Tryd.Ai.Laid W :=
  tabIs_of_mem (g := 1) (t := 111) (e := 94) (n := 20) (by
    have : ("internal/strconv.uint64pow10", Rows.laid_internal_strconv_uint64pow10) ∈ Rows.tlogPathsRow.laid := by simp [Rows.tlogPathsRow]
    have e : (Rows.laid_internal_strconv_uint64pow10 : DataW Unit) = Lib.tabData .u64 Lib.pow10Tab := by kernel_rfl
    rw [e] at this; exact this) (by kernel_rfl) (by kernel_rfl) Tryd.underlying111 Tryd.underlying94 (by kernel_rfl) (by kernel_rfl) hL

/-- what a row lays, and what each world has -/
theorem all_of {W : World} (hL : laidMet Tryd.prog Rows.tlogPathsRow.laid W) (hsh : W.ShapedOpen Tryd.prog) : Go.Proofs.Tryd.Ai.LaidAll W where
  tab := laid_of hL
  max := Go.Proofs.Tryd.Ai.maxLen_of hsh
  esyn := Go.Proofs.Tryd.Ai.errAt_of (g := 2) (Go.Proofs.Tryd.Ai.laidMet_drop 5 hL) (by kernel_rfl) (by kernel_rfl)
  eran := Go.Proofs.Tryd.Ai.errAt_of (g := 3) (Go.Proofs.Tryd.Ai.laidMet_drop 4 hL) (by kernel_rfl) (by kernel_rfl)

theorem readable : ∀ t ∈ Tryd.f3.params.toList, Tryd.prog.readableRec t = true ∧ t < Tryd.prog.types.size := by
  rw [Tryd.params3]
  intro t ht
  simp only [List.mem_cons, List.mem_nil_iff, or_false] at ht
  rcases ht with rfl | rfl | rfl <;> exact ⟨by kernel_rfl, of_decide_eq_true (by kernel_rfl)⟩

set_option maxRecDepth 100000 in
theorem contract (H : Type) (enc : TypeId × Value → H) (W : World) (base : Nat) (args : Array Value) (ds gs : List (DataW H)) (before : List MemPlace)
    (hval : ∀ (j : Nat) t v, Tryd.f3.params[j]? = some t → args[j]? = some v → Value.okWide Tryd.prog W .any base t v)
    (hW : DataW.Whole enc Tryd.prog Tryd.f3.params.toList Rows.tlogPathsSpec.vars false W args.toList ds gs before) (hl : Go.Proofs.Tryd.Ai.LaidAll W) :
    Calls Tryd.prog 3 args W fun e W' => ∃ v, e = .returned v ∧ Rows.tlogPathsSpec.post enc Tryd.prog Tryd.f3 false true false false W args v W' := by
  have hW' := hW
  obtain ⟨p, q, hA0, hV, rfl, hfz, hnd⟩ := hW
  have hA : DataW.TrodAll enc Tryd.prog W 0 (fun _ => true) true Tryd.f3.params.toList args.toList ds p := hA0
  have hAk := hA
  rw [Tryd.params3] at hA hval
  obtain ⟨v0, vs0, d0, ds0, p0, q0, hargs0, rfl, rfl, h0, r0⟩ := trodAll_cons hA
  obtain ⟨v1, vs1, d1, ds1, p1, q1, hargs1, rfl, rfl, h1, r1⟩ := trodAll_cons r0
  obtain ⟨v2, vs2, d2, ds2, p2, q2, hargs2, rfl, rfl, h2, r2⟩ := trodAll_cons r1
  obtain ⟨e1, e2, e3⟩ := trodAll_nil r2
  obtain rfl : args = #[v0, v1, v2] := by cases args; simp_all
  subst e2 e3
  obtain ⟨rfl, rfl⟩ := trodVars_none hV
  obtain ⟨a0, Q0, R0, _⟩ := (Reads.int Tryd.underlying3 (by kernel_rfl)).arg1 (enc := enc) (W := W) (fun _ => rfl) (by kernel_rfl) (hval 0 3 v0 rfl rfl) h0
  obtain ⟨a1, Q1, R1, _⟩ := (Reads.int Tryd.underlying3 (by kernel_rfl)).arg1 (enc := enc) (W := W) (fun _ => rfl) (by kernel_rfl) (hval 1 3 v1 rfl rfl) h1
  obtain ⟨a2, Q2, R2, _⟩ := (Reads.int Tryd.underlying3 (by kernel_rfl)).arg1 (enc := enc) (W := W) (fun _ => rfl) (by kernel_rfl) (hval 2 3 v2 rfl rfl) h2
  have hlt : ∀ x ∈ (p0 ++ p1 ++ p2 : List MemPlace), True := fun _ _ => trivial
  refine (walk a0 a1 a2 v0 v1 v2 W hl R0 R1 R2 (by have := Go.Proofs.Tryd.Ai.pathsLaw_eq a0 a1 a2  []; exact this)).mono fun e W' ⟨he, bel⟩ => ?_
  subst he
  exact ⟨_, rfl, _, _, _, [], _, [], hW', trodAll_mk1 (shut_bool Tryd.underlying4 _), trodAll_keep laidOut bel readable hAk (fun x hx => by simpa using hW'.lt x (by simpa using hx)), rfl, bel.frame _, fun h => by cases h⟩

noncomputable def laidWorld (os : Os) : World := World.laidAll Tryd.prog os Rows.tlogPathsRow.laid
theorem laid_met (os : Os) : laidMet Tryd.prog Rows.tlogPathsRow.laid ((laidWorld os).forCall (fun _ _ => 0) ⟨#[], #[.int .i64 0, .int .i64 0, .int .i64 0], []⟩).memory :=
  laidMet_laidAll _ (by kernel_rfl) (by kernel_rfl)
theorem reads (os : Os) {H : Type} (enc : TypeId × Value → H) : ∃ places, DataW.whole enc Tryd.prog ((laidWorld os).forCall (fun _ _ => 0) ⟨#[], #[.int .i64 0, .int .i64 0, .int .i64 0], []⟩).memory Tryd.f3.params.toList Rows.tlogPathsSpec.vars false (#[.int .i64 0, .int .i64 0, .int .i64 0] : Array Value).toList 8 = some ([.lit (.int .i64 0), .lit (.int .i64 0), .lit (.int .i64 0)], [], places) :=
  ⟨[], by kernel_rfl⟩
theorem witness (os : Os) {H : Type} (enc : TypeId × Value → H) : ∃ (w : World) (tape : Tape) (i : Input), w.os = os ∧ (w.forCall tape i).Shaped Tryd.checked.prog ∧ i.vars = [] ∧ Input.okWide Tryd.checked.prog (w.forCall tape i) .any w.heap.size 3 i ∧
    (OpenSpec.ofChange Rows.tlogPathsSpec).preRow enc Tryd.checked.prog Tryd.f3 Rows.tlogPathsRow.domain false Rows.tlogPathsRow.laid (w.forCall tape i).memory i.args ∧ ({} : Assume).holds Tryd.checked.prog (lone (Frame.enter Tryd.checked.prog 3 i.args .normal) [] (w.forCall tape i)) := by
  obtain ⟨places, hx⟩ := reads os enc
  have hok : Input.okWideB Tryd.checked.prog ((laidWorld os).forCall (fun _ _ => 0) ⟨#[], #[.int .i64 0, .int .i64 0, .int .i64 0], []⟩) 3 ⟨#[], #[.int .i64 0, .int .i64 0, .int .i64 0], []⟩ = true := by kernel_rfl
  exact ⟨laidWorld os, fun _ _ => 0, ⟨#[], #[.int .i64 0, .int .i64 0, .int .i64 0], []⟩, World.laidAll_os _ _ _, World.shaped_of_ZipB (by kernel_rfl) (by kernel_rfl), (Input.okWide_of_okWideB (base := 0) hok).1, (Input.okWide_of_okWideB hok).2,
    OpenSpec.preRow_of_cond 8 hx (by kernel_rfl) (fun k hk => by cases hk) (by kernel_rfl) (laid_met os), by
    simp only [Assume.holds]
    exact ⟨by simp, by simp, fun _ => Modest.zero, by simp, by simp⟩⟩

set_option maxRecDepth 100000 in
theorem lifted (os : Os) (started : os.Started) (H : Type) (enc : TypeId × Value → H) (F : Stop.Interp) :
    ReturnsInHanded {} Tryd.checked os 3 .any ((OpenSpec.ofChange Rows.tlogPathsSpec).preRow enc Tryd.prog Tryd.f3 Rows.tlogPathsRow.domain false Rows.tlogPathsRow.laid) (((OpenSpec.ofChange Rows.tlogPathsSpec).at F).post enc Tryd.prog Tryd.f3 false true false false) := by
  refine returnsInHanded_of_row (C := Tryd.checked) (s := (OpenSpec.ofChange Rows.tlogPathsSpec)) own started (by kernel_rfl) Tryd.func3 (witness os enc) ?_
  intro W base args ds gs before hval hW _ hcond _ hL hsh _
  exact contract H enc W base args ds gs before hval hW (all_of (by rw [← MakeChecks.laidMetH_plain _ _ _ (by kernel_rfl)]; exact hL) hsh)

theorem said : Rows.TlogPathsSaid :=
  OpenClaim.holds_of_cond 3 Tryd.f3 rfl rfl rfl rfl rfl rfl rfl ⟨rfl, rfl, rfl, rfl, rfl⟩ rfl rfl rfl rfl rfl (by kernel_rfl) Tryd.func3 (by kernel_rfl)
    (of_decide_eq_true (by kernel_rfl)) (by unfold Func.isWrapper; first | (rw [if_pos (by decide +kernel)]; kernel_rfl) | (rw [if_neg (by decide +kernel)]; exact ⟨rfl, rfl⟩))
    (fun os started H enc _ F => by rw [OpenClaim.pre_eq_preRow]; exact lifted os started H enc F)

theorem plain (f : FuncId) (fn : Func) (hf : Tryd.pinned.checked.prog.funcNamed "mews/mewslaw7.TlogPaths" = some f) (hfn : Tryd.pinned.checked.prog.funcs[f]? = some fn) :
    true = Tryd.pinned.checked.prog.looks [] ∧ ∀ (j : Nat) t, fn.params[j]? = some t → Tryd.pinned.checked.prog.wantsStandIn t = false := by
  obtain rfl : f = 3 := Option.some.inj ((show Tryd.prog.funcNamed "mews/mewslaw7.TlogPaths" = some 3 by kernel_rfl).symm.trans hf) |>.symm
  obtain rfl : fn = Tryd.f3 := (Option.some.inj (Tryd.func3.symm.trans hfn)).symm
  refine ⟨by kernel_rfl, fun j t ht => ?_⟩
  have hm : t ∈ Tryd.f3.params.toList := Array.mem_toList_iff.2 (Array.mem_of_getElem? ht)
  rw [Tryd.params3] at hm
  simp only [List.mem_cons, List.mem_nil_iff, or_false] at hm
  rcases hm with rfl | rfl | rfl
  · exact (show Tryd.prog.wantsStandIn 3 = false by kernel_rfl)
  · exact (show Tryd.prog.wantsStandIn 3 = false by kernel_rfl)
  · exact (show Tryd.prog.wantsStandIn 3 = false by kernel_rfl)

/-- the card -/
theorem card : Rows.TlogPathsCardSaid :=
  Claim7.holds_tied_plain_at .later [] _ _ _ _ said (fun _ h => by cases h) (by kernel_rfl) (fun _ h => by cases h) tlogPaths_row_tie rfl ⟨rfl, rfl⟩ (by kernel_rfl) rfl plain (by kernel_rfl)
end Go.Proofs.YtmikahmnomfacaaDoor.tlogPaths
end
