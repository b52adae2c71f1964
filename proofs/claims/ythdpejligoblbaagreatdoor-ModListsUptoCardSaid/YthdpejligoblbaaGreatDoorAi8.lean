/- Part 8 of a proof: a Go function is evaluated on abstract values (texts SoM1 .. FLists); no conditions beyond those of each theorem. -/
import Derived.Test.YthdpejligoblbaaGreatDoorAi7
import Derived.OpenShut
import Derived.Carry
import Derived.Deep.Slices
import Derived.ChangeOld
import Derived.Lib.LaidTab
import Derived.ChangeSame
import Derived.Deep.Strs
import Derived.Lib.SmallJoins
import Derived.Test.YthdpejligoblbaaGreatDoorRows
import Derived.Test.YthdpejligoblbaaGreatDoorCards
import Derived.Test.YthdpejligoblbaaGreatDoorTie
import Derived.WalkKit
import Derived.ProofKit
import Derived.Below
import Derived.Deep.DeepHandedRow
import Derived.Lay
import Derived.MakeChecks
set_option linter.all false
set_option linter.unusedVariables false
set_option linter.unusedSimpArgs false
set_option linter.unnecessarySimpa false
section
/- Sorting a row of texts: exchanges. -/
namespace Go.Proofs.Tryz.Ai
open Go Go.AI Go.Proofs
set_option maxHeartbeats 1000000
set_option linter.unusedVariables false

def esM : List UInt8 × List UInt8 → List AV := fun x => [.str x.1, .str x.2]
@[simp] theorem es_demM {D : List (List UInt8 × List UInt8)} : (rowE esM D).map dem = rowE esM D := by
  induction D with
  | nil => rfl
  | cons a D ih => unfold rowE at *; rw [List.flatMap_cons, List.map_append, ih]; rfl
theorem es_getM {D : List (List UInt8 × List UInt8)} {i : Nat} {x : List UInt8 × List UInt8} (h : D[i]? = some x) : ((rowE esM D).drop (i * 2)).take 2 = [.str x.1, .str x.2] := by
  have := rowE_get (E := esM) (sz := 2) (fun _ => rfl) (fun _ => rfl) h
  rwa [List.map_take, List.map_drop, es_demM] at this
theorem es_bndM {D : List (List UInt8 × List UInt8)} {i : Nat} {x : List UInt8 × List UInt8} (h : D[i]? = some x) : i * 2 + 2 ≤ (rowE esM D).length := by
  have := (List.getElem?_eq_some_iff.1 h).1
  rw [rowE_len (E := esM) (sz := 2) (fun _ => rfl) D]; omega
theorem es_setM {D : List (List UInt8 × List UInt8)} {i : Nat} {y : List UInt8 × List UInt8} (h : i < D.length) : (rowE esM D).take (i * 2) ++ (.str y.1 :: .str y.2 :: (rowE esM D).drop (i * 2 + 2)) = rowE esM (D.set i y) :=
  rowE_set (E := esM) (sz := 2) (fun _ => rfl) h
theorem es_lenM {D : List (List UInt8 × List UInt8)} : (rowE esM D).length = D.length * 2 := rowE_len (E := esM) (sz := 2) (fun _ => rfl) D
theorem swapRange_eqM (b : Nat) (σ : List (List AV)) (D : List (List UInt8 × List UInt8)) (x y n g : Nat) (hN : D.length ≤ 2 ^ 30) (hx : x + n ≤ D.length) (hy : y + n ≤ D.length) (hb : b < σ.length) :
    ev 177 [.ms 41 2 b 0 D.length, .int .i64 x, .int .i64 y, .int .i64 n, .fn g []] (σ.set b (rowE esM D)) = some (.tup [], σ.set b (rowE esM (swapN D x y n))) := by
  refine EV_post rfl Tryz.func177 rfl (by simp [Tryz.ntmps177]) (by kernel_rfl) (by kernel_rfl) ?_
  simp (maxSteps := 4000000) [List.getElem?_cons_zero, List.getElem?_cons_succ, ]
  refine Post_loop (I := fun k : Nat => ⟨[(0, .ms 41 2 b 0 D.length), (1, .int .i64 x), (2, .int .i64 y), (3, .int .i64 n), (10, .int .i64 k)], [], σ.set b (rowE esM (swapN D x y k))⟩) (Pr := fun k => k ≤ n) (μ := fun k => n - k) (a := 0) (by simp [swapN]) (by simp) ?_
  intro k hk
  by_cases hc : k < n
  · have hs : swapN D x y (k + 1) = swap2 (swapN D x y k) (x + k) (y + k) := rfl
    obtain ⟨Dk, hDk⟩ : ∃ Dk, swapN D x y k = Dk := ⟨_, rfl⟩
    have hl : Dk.length = D.length := by rw [← hDk]; simp
    rw [hDk] at hs
    obtain ⟨i, hi⟩ : ∃ i, x + k = i := ⟨_, rfl⟩
    obtain ⟨j, hj⟩ : ∃ i, y + k = i := ⟨_, rfl⟩
    rw [hi, hj] at hs
    obtain ⟨u, hu⟩ : ∃ u, Dk[i]? = some u := ⟨_, List.getElem?_eq_getElem (by omega)⟩
    obtain ⟨v, hv⟩ : ∃ u, Dk[j]? = some u := ⟨_, List.getElem?_eq_getElem (by omega)⟩
    rw [swap2_eq hu hv] at hs
    have w1 : IntKind.i64.wrap ((x : Int) + k) = (i : Int) := by rw [wrap64 (by omega)]; omega
    have w2 : IntKind.i64.wrap ((y : Int) + k) = (j : Int) := by rw [wrap64 (by omega)]; omega
    have w3 : IntKind.i64.wrap ((k : Int) + 1) = (k : Int) + 1 := wrap64 (by omega)
    have q1 : i < D.length := by omega
    have q2 : j < D.length := by omega
    have q1' : i * 2 + 2 ≤ (rowE esM Dk).length := by rw [es_lenM]; omega
    have q2' : j * 2 + 2 ≤ (rowE esM (Dk.set i v)).length := by rw [es_lenM]; simp; omega
    have g1 := es_getM hu
    have r1 := es_bndM hu
    have g2 := es_getM hv
    have r2 := es_bndM hv
    have s1 := es_setM (D := Dk) (i := i) (y := v) (by omega)
    have s2 := es_setM (D := Dk.set i v) (i := j) (y := u) (by simp; omega)
    simp (maxSteps := 4000000) [List.getElem?_cons_zero, List.getElem?_cons_succ, -getElem?_pos, hc, hDk, w1, w2, w3, q1, q2, q1', q2', g1, g2, r1, r2, s1, s2, hb]
    exact ⟨k + 1, by omega, by omega, by simp [hs]⟩
  · have : k = n := by omega
    subst this
    simp (maxSteps := 4000000) [List.getElem?_cons_zero, List.getElem?_cons_succ, hc, Tryz.results177]
end Go.Proofs.Tryz.Ai
end
section
/- Sorting a row of texts: insertion, rotation. -/
namespace Go.Proofs.Tryz.Ai
open Go Go.AI Go.Proofs
set_option maxHeartbeats 400000
set_option linter.unusedVariables false

/-- a function that compares -/
structure CmpOkM (g : Nat) (c : (List UInt8 × List UInt8) → (List UInt8 × List UInt8) → Int) (Q : (List UInt8 × List UInt8) → Prop) : Prop where
  tp : TP c
  lt : g < 100000
  run : ∀ x y, Q x → Q y → ∀ σ, ev g [.agg [.str x.1, .str x.2], .agg [.str y.1, .str y.2]] σ = some (.int .i64 (c x y), σ)
theorem insertion_eqM {g : Nat} {c : (List UInt8 × List UInt8) → (List UInt8 × List UInt8) → Int} {Q : (List UInt8 × List UInt8) → Prop} (h : CmpOkM g c Q) (b : Nat) (σ : List (List AV)) (pre L post : List (List UInt8 × List UInt8)) (hL : ∀ x ∈ L, Q x) (N a e : Nat) (hN : N ≤ 2 ^ 30) (hNe : N = pre.length + (L.length + post.length)) (ha : a = pre.length) (he : e = a + L.length) (hb : b < σ.length) :
    ev 155 [.ms 41 2 b 0 N, .int .i64 a, .int .i64 e, .fn g []] (σ.set b (rowE esM (pre ++ (L ++ post)))) = some (.tup [], σ.set b (rowE esM (pre ++ (isrt c L ++ post)))) := by
  refine EV_post rfl Tryz.func155 rfl (by simp [Tryz.ntmps155]) (by kernel_rfl) (by kernel_rfl) ?_
  have w0 : IntKind.i64.wrap ((a : Int) + 1) = (a : Int) + 1 := wrap64 (by omega)
  have hgl := h.lt
  simp (maxSteps := 4000000) [List.getElem?_cons_zero, List.getElem?_cons_succ, -Prod.forall, w0]
  refine Post_loop (I := fun k : Nat => ⟨[(0, .ms 41 2 b 0 N), (1, .int .i64 a), (2, .int .i64 e), (3, .fn g []), (8, .int .i64 ((a + k : Nat) : Int))], [], σ.set b (rowE esM (pre ++ (isrt c (L.take k) ++ (L.drop k ++ post))))⟩) (Pr := fun k => 1 ≤ k ∧ (k ≤ L.length ∨ L = [])) (μ := fun k => L.length - k) (a := 1)
    (by cases L with
        | nil => simp [isrt]
        | cons x L => simp [isrt, ins1]) (by cases L <;> simp) ?_
  rintro k ⟨hk1, hk2⟩
  by_cases hc : k < L.length
  · obtain ⟨x, hx⟩ : ∃ x, L[k]? = some x := ⟨_, List.getElem?_eq_getElem hc⟩
    have hQx := hL x (List.mem_of_getElem? hx)
    have hdrop : L.drop k = x :: L.drop (k + 1) := by rw [List.drop_eq_getElem_cons hc]; congr 1; exact (List.getElem?_eq_some_iff.1 hx).2
    have hS : isrt c (L.take (k + 1)) = mrg c (isrt c (L.take k)) [x] := by
      rw [List.take_add_one, hx]; exact isrt_snoc h.tp _ _
    have hSs := isrt_srt' h.tp (L.take k)
    have hSl : (isrt c (L.take k)).length = k := by rw [isrt_len]; simp; omega
    have hSQ : ∀ y ∈ isrt c (L.take k), Q y := fun y hy => hL y (List.mem_of_mem_take (isrt_mem.1 hy))
    rw [hdrop]
    obtain ⟨S, hSe⟩ : ∃ S, isrt c (L.take k) = S := ⟨_, rfl⟩
    rw [hSe] at hS hSs hSl hSQ ⊢
    obtain ⟨m, hm⟩ : ∃ m, a + k = m := ⟨_, rfl⟩
    have q0 : (m : Int) < e := by omega
    have q1 : m < e := by omega
    simp (maxSteps := 4000000) [List.getElem?_cons_zero, List.getElem?_cons_succ, -Prod.forall, hm, q1]
    refine Post_loop (I := fun u : Nat => ⟨[(0, .ms 41 2 b 0 N), (1, .int .i64 a), (2, .int .i64 e), (3, .fn g []), (8, .int .i64 m), (9, .int .i64 ((a + u : Nat) : Int))], [], σ.set b (rowE esM (pre ++ (S.take u ++ x :: (S.drop u ++ (L.drop (k + 1) ++ post)))))⟩)
      (Pr := fun u => u ≤ k ∧ ∀ v ∈ S.drop u, c x v < 0) (μ := fun u => u) (a := k) (by simp [hm, ← hSl]; omega) (by simp [← hSl]) ?_
    rintro u ⟨hu, hV⟩
    have hfin : (∀ y, (S.take u).getLast? = some y → ¬ c x y < 0) → isrt c (L.take (k + 1)) = S.take u ++ x :: S.drop u := by
      intro hq
      rw [hS]
      have : S = S.take u ++ S.drop u := (List.take_append_drop u S).symm
      conv => lhs; rw [this]
      refine mrg_one (fun y hy => ?_) hV
      obtain ⟨z, hz⟩ : ∃ z, (S.take u).getLast? = some z := by
        cases hg : (S.take u).getLast? with
        | none => rw [List.getLast?_eq_none_iff] at hg; rw [hg] at hy; cases hy
        | some z => exact ⟨z, rfl⟩
      have h1 := hq z hz
      have hyz : y = z ∨ c y z ≤ 0 := by
        rw [this] at hSs
        have hs1 := (List.pairwise_append.1 hSs).1
        obtain ⟨ys, hys⟩ := List.getLast?_eq_some_iff.1 hz
        rw [hys] at hy hs1
        rcases List.mem_append.1 hy with hy | hy
        · exact .inr ((List.pairwise_append.1 hs1).2.2 y hy z (by simp))
        · simp at hy; exact .inl hy
      rcases hyz with rfl | hyz
      · exact h1
      · exact h.tp.nlt.2 (h.tp.trans _ _ _ hyz (h.tp.nlt.1 h1))
    obtain ⟨R, hR⟩ : ∃ R, L.drop (k + 1) ++ post = R := ⟨_, rfl⟩
    rw [hR]
    cases u with
    | zero =>
      have hf := hfin (by simp)
      have w2 : IntKind.i64.wrap ((m : Int) + 1) = (m : Int) + 1 := wrap64 (by omega)
      obtain ⟨D, hD⟩ : ∃ D, pre ++ (S.take 0 ++ x :: (S.drop 0 ++ R)) = D := ⟨_, rfl⟩
      rw [hD]
      simp (maxSteps := 4000000) [List.getElem?_cons_zero, List.getElem?_cons_succ, -Prod.forall, -regionA_true]
      refine Post_bndD [] _ (by rfl) (by simp (maxSteps := 4000000) [List.getElem?_cons_zero, List.getElem?_cons_succ, ]; exact rfl) ?_
      repeat (first
        | refine PostD_go _ (by rfl) (by rfl) (by simp (maxSteps := 4000000) [List.getElem?_cons_zero, List.getElem?_cons_succ, ]; exact rfl) (by first | exact .inl rfl | exact .inr rfl) (by rfl) ?_
        | refine PostD_no (by rfl) (by rfl) ?_)
      refine PostD_end ?_
      simp (maxSteps := 4000000) [List.getElem?_cons_zero, List.getElem?_cons_succ, -Prod.forall, w2]
      refine ⟨k + 1, ⟨by omega, by omega⟩, by omega, by omega, ?_⟩
      rw [hf, ← hD, ← hR]; simp
    | succ w =>
      obtain ⟨y, hy⟩ : ∃ y, S[w]? = some y := ⟨_, List.getElem?_eq_getElem (by omega)⟩
      have hQy := hSQ y (List.mem_of_getElem? hy)
      have hcmp := h.run x y hQx hQy
      have hB := bubL (pre := pre) (rest := R) (x := x) hy
      rw [← ha] at hB
      obtain ⟨D, hD⟩ : ∃ D, pre ++ (S.take (w + 1) ++ x :: (S.drop (w + 1) ++ R)) = D := ⟨_, rfl⟩
      rw [hD] at hB ⊢
      have hDl : D.length = N := by rw [← hD, ← hR]; simp; omega
      obtain ⟨i, hi⟩ : ∃ i, a + w = i := ⟨_, rfl⟩
      have hj : a + (w + 1) = i + 1 := by omega
      rw [hi, hj] at hB
      have w1 : IntKind.i64.wrap ((i : Int) + 1 - 1) = (i : Int) := by rw [wrap64 (by omega)]; omega
      have w2 : IntKind.i64.wrap ((m : Int) + 1) = (m : Int) + 1 := wrap64 (by omega)
      have p1 : (a : Int) < (i : Int) + 1 := by omega
      have p2 : ((i : Int) + 1).toNat = i + 1 := by omega
      have p3 : i + 1 < N := by omega
      have p4 : i < N := by omega
      have p5 : i * 2 + 2 ≤ (rowE esM D).length := by rw [es_lenM]; omega
      have p6 : (i + 1) * 2 + 2 ≤ (rowE esM D).length := by rw [es_lenM]; omega
      have p7 : (0 : Int) ≤ (i : Int) + 1 := by omega
      have g1 := es_getM hB.1
      have r1 := es_bndM hB.1
      have g2 := es_getM hB.2.1
      have r2 := es_bndM hB.2.1
      have s1 := es_setM (D := D) (i := i + 1) (y := y) (by omega)
      have s2 := es_setM (D := D.set (i + 1) y) (i := i) (y := x) (by simp; omega)
      have p8 : i * 2 + 2 ≤ (rowE esM (D.set (i + 1) y)).length := by rw [es_lenM]; simp; omega
      have hsw := hB.2.2
      rw [swap2_eq hB.2.1 hB.1] at hsw
      have hj2 : (a : Int) + ((w : Int) + 1) = ((i + 1 : Nat) : Int) := by omega
      have hi2 : (a : Int) + (w : Int) = (i : Int) := by omega
      obtain ⟨i1, hi1⟩ : ∃ z, i + 1 = z := ⟨_, rfl⟩
      have w1 : IntKind.i64.wrap ((i1 : Int) - 1) = (i : Int) := by rw [wrap64 (by omega)]; omega
      rw [hi1] at g2 r2 s1 p3 p6 hj2 hsw
      have s2 := es_setM (D := D.set i1 y) (i := i) (y := x) (by simp; omega)
      have p8 : i * 2 + 2 ≤ (rowE esM (D.set i1 y)).length := by rw [es_lenM]; simp; omega
      have p1 : a < i1 := by omega
      simp (maxSteps := 4000000) [List.getElem?_cons_zero, List.getElem?_cons_succ, -Prod.forall, -regionA_true, hj2]
      refine Post_bndD [] _ (by rfl) (by simp (maxSteps := 4000000) [List.getElem?_cons_zero, List.getElem?_cons_succ, ]; exact rfl) ?_
      repeat (first
        | refine PostD_go _ (by rfl) (by rfl) (by simp (maxSteps := 4000000) [List.getElem?_cons_zero, List.getElem?_cons_succ, -getElem?_pos, w1, p1, p3, p4, g1, g2, r1, r2, hgl, hcmp, hb]; exact rfl) (by first | exact .inl rfl | exact .inr rfl) (by rfl) ?_
        | refine PostD_no (by rfl) (by rfl) ?_)
      refine PostD_end ?_
      by_cases hlt : c x y < 0
      · have hV2 : ∀ v ∈ S.drop w, c x v < 0 := by
          have hd : S.drop w = y :: S.drop (w + 1) := by rw [List.drop_eq_getElem_cons (by omega)]; congr 1; exact (List.getElem?_eq_some_iff.1 hy).2
          rw [hd]
          intro v hv
          rcases List.mem_cons.1 hv with rfl | hv
          · exact hlt
          · exact hV v hv
        simp (maxSteps := 4000000) [List.getElem?_cons_zero, List.getElem?_cons_succ, -Prod.forall, -regionA_true, hlt]
        refine Post_bndD [] _ (by rfl) (by simp (maxSteps := 4000000) [List.getElem?_cons_zero, List.getElem?_cons_succ, ]; exact rfl) ?_
        repeat (first
          | refine PostD_go _ (by rfl) (by rfl) (by simp (maxSteps := 4000000) [List.getElem?_cons_zero, List.getElem?_cons_succ, -getElem?_pos, w1, p3, p4, p5, p6, p8, g1, g2, r1, r2, s1, s2, hb]; exact rfl) (by first | exact .inl rfl | exact .inr rfl) (by rfl) ?_
          | refine PostD_no (by rfl) (by rfl) ?_)
        refine PostD_end ?_
        simp (maxSteps := 4000000) [List.getElem?_cons_zero, List.getElem?_cons_succ, -Prod.forall, w1]
        exact ⟨w, ⟨by omega, hV2⟩, by omega, hi2.symm, by rw [hsw]⟩
      · have hf := hfin (fun z hz => by
          have : (S.take (w + 1)).getLast? = some y := by rw [List.take_add_one, hy]; simp
          rw [this] at hz; injection hz with hz; subst hz; exact hlt)
        simp (maxSteps := 4000000) [List.getElem?_cons_zero, List.getElem?_cons_succ, -Prod.forall, hlt, w2]
        refine ⟨k + 1, ⟨by omega, by omega⟩, by omega, by omega, ?_⟩
        rw [hf, ← hD, ← hR]; simp
  · have hk : L.take k = L ∧ L.drop k = [] := by
      rcases hk2 with h | h
      · exact ⟨List.take_of_length_le (by omega), List.drop_of_length_le (by omega)⟩
      · subst h; simp
    rw [hk.1, hk.2]
    obtain ⟨m, hm⟩ : ∃ m, a + k = m := ⟨_, rfl⟩
    have q1 : ¬ m < e := by omega
    have hlow := lowS_setset (σ := σ) (b := b) (X := rowE esM (pre ++ (L ++ post))) (lowL_rowE (E := esM) (n := σ.length) (fun x => by simp [esM]) (pre ++ (isrt c L ++ ([] ++ post))))
    rw [hm]
    obtain ⟨X, hX⟩ : ∃ X, rowE esM (pre ++ (isrt c L ++ ([] ++ post))) = X := ⟨_, rfl⟩
    rw [hX] at hlow ⊢
    simp (maxSteps := 4000000) [List.getElem?_cons_zero, List.getElem?_cons_succ, -Prod.forall, q1]
    rw [need_of hlow, ← hX]
    simp
end Go.Proofs.Tryz.Ai
end
section
/- Sorting a row of texts: rotation. -/
namespace Go.Proofs.Tryz.Ai
open Go Go.AI Go.Proofs
set_option maxHeartbeats 400000
set_option linter.unusedVariables false

theorem rotate_eqM (b : Nat) (σ : List (List AV)) (pre U V post : List (List UInt8 × List UInt8)) (g N a m e : Nat) (hN : N ≤ 2 ^ 30) (hNe : N = pre.length + (U.length + (V.length + post.length))) (ha : a = pre.length) (hm : m = a + U.length) (he : e = m + V.length) (hU : 0 < U.length) (hV : 0 < V.length) (hb : b < σ.length) :
    ev 170 [.ms 41 2 b 0 N, .int .i64 a, .int .i64 m, .int .i64 e, .fn g []] (σ.set b (rowE esM (pre ++ (U ++ (V ++ post))))) = some (.tup [], σ.set b (rowE esM (pre ++ (V ++ (U ++ post))))) := by
  refine EV_post rfl Tryz.func170 rfl (by simp [Tryz.ntmps170]) (by kernel_rfl) (by kernel_rfl) ?_
  have w0 : IntKind.i64.wrap ((m : Int) - a) = (U.length : Int) := by rw [wrap64 (by omega)]; omega
  have w1 : IntKind.i64.wrap ((e : Int) - m) = (V.length : Int) := by rw [wrap64 (by omega)]; omega
  simp (maxSteps := 4000000) [List.getElem?_cons_zero, List.getElem?_cons_succ, -Prod.forall, w0, w1]
  refine Post_loop (I := fun x : List (List UInt8 × List UInt8) × List (List UInt8 × List UInt8) × List (List UInt8 × List UInt8) × List (List UInt8 × List UInt8) => ⟨[(0, .ms 41 2 b 0 N), (2, .int .i64 m), (4, .fn g []), (10, .int .i64 x.2.1.length), (11, .int .i64 x.2.2.1.length)], [], σ.set b (rowE esM (x.1 ++ (x.2.1 ++ (x.2.2.1 ++ x.2.2.2))))⟩)
    (Pr := fun x => x.1.length + x.2.1.length = m ∧ 0 < x.2.1.length ∧ 0 < x.2.2.1.length ∧ x.1 ++ (x.2.2.1 ++ (x.2.1 ++ x.2.2.2)) = pre ++ (V ++ (U ++ post))) (μ := fun x => x.2.1.length + x.2.2.1.length) (a := (pre, U, V, post)) (by simp) (by simp; omega) ?_
  rintro ⟨p, X, Y, q⟩ ⟨h1, h2, h3, h4⟩
  simp only at h1 h2 h3 h4 ⊢
  have hl := congrArg List.length h4
  simp only [List.length_append] at hl
  obtain ⟨i, hi⟩ : ∃ i, X.length = i := ⟨_, rfl⟩
  obtain ⟨j, hj⟩ : ∃ j, Y.length = j := ⟨_, rfl⟩
  have hp : p.length = m - i := by omega
  obtain ⟨z, hz⟩ : ∃ z, m - i = z := ⟨_, rfl⟩
  have w2 : IntKind.i64.wrap ((m : Int) - i) = (z : Int) := by rw [wrap64 (by omega)]; omega
  have hlen : (p ++ (X ++ (Y ++ q))).length = N := by simp; omega
  by_cases hij : i = j
  · have hs := swapRange_eqM b σ (p ++ (X ++ ([] ++ (Y ++ q)))) z m i g (by simp; omega) (by simp; omega) (by simp; omega) hb
    have hsw := swapN_at (pre := p) (U := X) (mid := []) (V := Y) (post := q) (n := i) hi (by omega)
    have e1 : p.length + (i + ([] : List (List UInt8 × List UInt8)).length) = m := by simp; omega
    rw [e1, hp, hz] at hsw
    rw [hsw] at hs
    simp only [List.nil_append] at hs
    rw [hlen, h4] at hs
    subst hij
    simp (maxSteps := 4000000) [List.getElem?_cons_zero, List.getElem?_cons_succ, -Prod.forall, hi, hj, w2, hs, Tryz.results170]
  · have hij' : ¬ (i : Int) = j := by omega
    by_cases hlt : j < i
    · have hX : X = X.take j ++ X.drop j := (List.take_append_drop j X).symm
      have hs := swapRange_eqM b σ (p ++ (X.take j ++ (X.drop j ++ (Y ++ q)))) z m j g (by simp; omega) (by simp; omega) (by simp; omega) hb
      have hsw := swapN_at (pre := p) (U := X.take j) (mid := X.drop j) (V := Y) (post := q) (n := j) (by simp; omega) hj
      have e1 : p.length + (j + (X.drop j).length) = m := by simp; omega
      rw [e1, hp, hz] at hsw
      rw [hsw] at hs
      have e2 : X.take j ++ (X.drop j ++ (Y ++ q)) = X ++ (Y ++ q) := by rw [← List.append_assoc, ← hX]
      rw [e2, hlen] at hs
      have w3 : IntKind.i64.wrap ((i : Int) - j) = ((i - j : Nat) : Int) := by rw [wrap64 (by omega)]; omega
      obtain ⟨r, hr⟩ : ∃ r, i - j = r := ⟨_, rfl⟩
      rw [hr] at w3
      simp (maxSteps := 4000000) [List.getElem?_cons_zero, List.getElem?_cons_succ, -Prod.forall, hi, hj, hij, hlt, w2, w3, hs]
      refine ⟨p ++ Y, X.drop j, X.take j, q, ⟨?_, ?_, ?_, ?_⟩, ?_, ?_, ?_⟩
      · simp; omega
      · simp; omega
      · simp; omega
      · rw [← h4]
        simp only [List.append_assoc]
        rw [← List.append_assoc (X.take j), ← hX]
      · simp; omega
      · simp; omega
      · simp
    · have hlt' : i < j := by omega
      have hY : Y = Y.take (j - i) ++ Y.drop (j - i) := (List.take_append_drop (j - i) Y).symm
      obtain ⟨r, hr⟩ : ∃ r, j - i = r := ⟨_, rfl⟩
      rw [hr] at hY
      have hs := swapRange_eqM b σ (p ++ (X ++ (Y.take r ++ (Y.drop r ++ q)))) z (m + r) i g (by simp; omega) (by simp; omega) (by simp; omega) hb
      have hsw := swapN_at (pre := p) (U := X) (mid := Y.take r) (V := Y.drop r) (post := q) (n := i) hi (by simp; omega)
      have e1 : p.length + (i + (Y.take r).length) = m + r := by simp; omega
      rw [e1, hp, hz] at hsw
      rw [hsw] at hs
      have e2 : Y.take r ++ (Y.drop r ++ q) = Y ++ q := by rw [← List.append_assoc, ← hY]
      rw [e2, hlen] at hs
      have w3 : IntKind.i64.wrap ((j : Int) - i) = (r : Int) := by rw [wrap64 (by omega)]; omega
      obtain ⟨y, hy⟩ : ∃ y, m + r = y := ⟨_, rfl⟩
      have w4 : IntKind.i64.wrap ((m : Int) + j) = (m : Int) + j := wrap64 (by omega)
      have w5 : IntKind.i64.wrap ((m : Int) + j - i) = (y : Int) := by rw [wrap64 (by omega)]; omega
      rw [hy] at hs
      simp (maxSteps := 4000000) [List.getElem?_cons_zero, List.getElem?_cons_succ, -Prod.forall, hi, hj, hij, hlt, w2, w3, w4, w5, hs]
      refine ⟨p, Y.drop r, Y.take r, X ++ q, ⟨?_, ?_, ?_, ?_⟩, ?_, ?_, ?_⟩
      · simp; omega
      · simp; omega
      · simp; omega
      · rw [← h4]
        rw [← List.append_assoc (Y.take r), ← hY]
      · simp; omega
      · simp; omega
      · simp
end Go.Proofs.Tryz.Ai
end
section
/- Sorting a row of texts: merging. -/
namespace Go.Proofs.Tryz.Ai
open Go Go.AI Go.Proofs
set_option maxHeartbeats 400000
set_option linter.unusedVariables false

/-- what a merge does -/
def MrgOkM (g : Nat) (c : (List UInt8 × List UInt8) → (List UInt8 × List UInt8) → Int) (Q : (List UInt8 × List UInt8) → Prop) (n : Nat) : Prop :=
  ∀ (b : Nat) (σ : List (List AV)) (pre L R post : List (List UInt8 × List UInt8)) (N a m e : Nat), L.length + R.length = n → N ≤ 2 ^ 30 → N = pre.length + (L.length + (R.length + post.length)) → a = pre.length → m = a + L.length → e = m + R.length → 0 < L.length → 0 < R.length →
    Srt c L → Srt c R → (∀ x ∈ L, Q x) → (∀ x ∈ R, Q x) → b < σ.length →
    ev 156 [.ms 41 2 b 0 N, .int .i64 a, .int .i64 m, .int .i64 e, .fn g []] (σ.set b (rowE esM (pre ++ (L ++ (R ++ post))))) = some (.tup [], σ.set b (rowE esM (pre ++ (mrg c L R ++ post))))
theorem merge_oneM {g : Nat} {c : (List UInt8 × List UInt8) → (List UInt8 × List UInt8) → Int} {Q : (List UInt8 × List UInt8) → Prop} (h : CmpOkM g c Q) (b : Nat) (σ : List (List AV)) (pre : List (List UInt8 × List UInt8)) (x : List UInt8 × List UInt8) (R post : List (List UInt8 × List UInt8)) (N a m e : Nat) (hN : N ≤ 2 ^ 30) (hNe : N = pre.length + (1 + (R.length + post.length))) (ha : a = pre.length) (hm : m = a + 1) (he : e = m + R.length)
    (hR : Srt c R) (hx : Q x) (hQ : ∀ x ∈ R, Q x) (hb : b < σ.length) :
    ev 156 [.ms 41 2 b 0 N, .int .i64 a, .int .i64 m, .int .i64 e, .fn g []] (σ.set b (rowE esM (pre ++ ([x] ++ (R ++ post))))) = some (.tup [], σ.set b (rowE esM (pre ++ (mrg c [x] R ++ post)))) := by
  obtain ⟨D, hD⟩ : ∃ D, pre ++ ([x] ++ (R ++ post)) = D := ⟨_, rfl⟩
  have hDl : D.length = N := by rw [← hD]; simp; omega
  have hDx : D[a]? = some x := by rw [← hD, ha]; simp
  have hDR : ∀ k, k < R.length → D[m + k]? = R[k]? := by
    intro k hk
    rw [← hD, hm, ha, List.getElem?_append_right (by omega), List.getElem?_append_right (by simp; omega), List.getElem?_append_left (by simp; omega)]
    congr 1; simp; omega
  have w0 : IntKind.i64.wrap ((m : Int) - a) = 1 := by rw [wrap64 (by omega)]; omega
  have hgl := h.lt
  rw [hD]
  refine EV_post rfl Tryz.func156 rfl (by simp [Tryz.ntmps156]) (by kernel_rfl) (by kernel_rfl) ?_
  simp (maxSteps := 4000000) [List.getElem?_cons_zero, List.getElem?_cons_succ, -Prod.forall, w0]
  refine Post_loop (I := fun p : Nat × Nat => ⟨[(0, .ms 41 2 b 0 N), (1, .int .i64 a), (4, .fn g []), (10, .int .i64 p.1), (11, .int .i64 p.2)], [], σ.set b (rowE esM D)⟩)
    (Pr := fun p => m ≤ p.1 ∧ p.1 ≤ p.2 ∧ p.2 ≤ e ∧ (∀ y ∈ R.take (p.1 - m), c y x < 0) ∧ (∀ y ∈ R.drop (p.2 - m), ¬ c y x < 0)) (μ := fun p => p.2 - p.1) (a := (m, e)) (by simp) (by simp [he]) ?_
  rintro ⟨i, j⟩ ⟨h1, h2, h3, h4, h5⟩
  simp only at h1 h2 h3 h4 h5 ⊢
  by_cases hc : i < j
  · have hw := half_w (i := i) (j := j) (by omega)
    obtain ⟨z, hz⟩ : ∃ z, i + j = z := ⟨_, rfl⟩
    obtain ⟨k, hk⟩ : ∃ z, (i + j) / 2 = z := ⟨_, rfl⟩
    rw [hk, hz] at hw
    obtain ⟨hw1, hw2, hw3, hw4⟩ := hw
    have hk1 : i ≤ k ∧ k < j := by omega
    obtain ⟨y, hy⟩ : ∃ y, R[k - m]? = some y := ⟨_, List.getElem?_eq_getElem (by omega)⟩
    have hDy : D[k]? = some y := by rw [← hy, ← hDR _ (by omega)]; congr 1; omega
    have g1 := es_getM hDx
    have r1 := es_bndM hDx
    have g2 := es_getM hDy
    have r2 := es_bndM hDy
    have hcmp := h.run y x (hQ y (List.mem_of_getElem? hy)) hx
    have p1 : k < N := by omega
    have p2 : a < N := by omega
    have w5 : IntKind.i64.wrap ((k : Int) + 1) = ((k + 1 : Nat) : Int) := by rw [wrap64 (by omega)]; omega
    simp (maxSteps := 4000000) [List.getElem?_cons_zero, List.getElem?_cons_succ, -Prod.forall, -regionA_true, hc, hw1, hw2, hw3, hw4]
    refine Post_bndD [] _ (by rfl) (by simp (maxSteps := 4000000) [List.getElem?_cons_zero, List.getElem?_cons_succ, ]; exact rfl) ?_
    repeat (first
      | refine PostD_go _ (by rfl) (by rfl) (by simp (maxSteps := 4000000) [List.getElem?_cons_zero, List.getElem?_cons_succ, -getElem?_pos, p1, p2, g1, g2, r1, r2, hgl, hcmp, hb]; exact rfl) (by first | exact .inl rfl | exact .inr rfl) (by rfl) ?_
      | refine PostD_no (by rfl) (by rfl) ?_)
    refine PostD_end ?_
    have hge : k - m < R.length := by omega
    by_cases hlt : c y x < 0
    · simp (maxSteps := 4000000) [List.getElem?_cons_zero, List.getElem?_cons_succ, -Prod.forall, hlt, w5]
      refine ⟨k + 1, j, ⟨by omega, by omega, by omega, fun w hw => ?_, fun w hw => ?_⟩, by omega, by simp⟩
      · obtain ⟨q, hq, hw⟩ := mem_take_get hw
        exact h.tp.le_lt (srt_get h.tp hR (by omega) hw hy) hlt
      · have := h5 w hw; omega
    · simp (maxSteps := 4000000) [List.getElem?_cons_zero, List.getElem?_cons_succ, -Prod.forall, hlt]
      refine ⟨i, k, ⟨by omega, by omega, by omega, fun w hw => ?_, fun w hw => ?_⟩, by omega, by simp, by simp⟩
      · exact h4 w hw
      · obtain ⟨q, hq, hw⟩ := mem_drop_get hw
        have := h.tp.nlt.1 hlt
        have := h.tp.trans _ _ _ this (srt_get h.tp hR hq hy hw)
        have := h.tp.flip x w; omega
  · have hij : i = j := by omega
    subst hij
    simp (maxSteps := 4000000) [List.getElem?_cons_zero, List.getElem?_cons_succ, -Prod.forall, hc]
    obtain ⟨p, hp⟩ : ∃ p, i - m = p := ⟨_, rfl⟩
    rw [hp] at h4 h5
    have hfin : mrg c [x] R = R.take p ++ x :: R.drop p := by
      conv => lhs; rw [← List.take_append_drop p R]
      exact mrg_one' h4 h5
    have hi : i = a + 1 + p := by omega
    have hpR : p ≤ R.length := by omega
    have w1 : IntKind.i64.wrap ((i : Int) - 1) = ((a + p : Nat) : Int) := by rw [wrap64 (by omega)]; omega
    refine Post_loop (I := fun u : Nat => ⟨[(0, .ms 41 2 b 0 N), (10, .int .i64 i), (13, .int .i64 ((a + u : Nat) : Int))], [], σ.set b (rowE esM (pre ++ (R.take u ++ x :: (R.drop u ++ post))))⟩)
      (Pr := fun u => u ≤ p) (μ := fun u => p - u) (a := 0) (by simp [← hD]) (by simp) ?_
    intro u hu
    by_cases huc : u < p
    · obtain ⟨y, hy⟩ : ∃ y, R[u]? = some y := ⟨_, List.getElem?_eq_getElem (by omega)⟩
      have hB := bubR (pre := pre) (rest := post) (x := x) hy
      rw [← ha] at hB
      obtain ⟨D', hD'⟩ : ∃ D', pre ++ (R.take u ++ x :: (R.drop u ++ post)) = D' := ⟨_, rfl⟩
      rw [hD'] at hB ⊢
      have hDl' : D'.length = N := by rw [← hD']; simp; omega
      obtain ⟨k, hk⟩ : ∃ z, a + u = z := ⟨_, rfl⟩
      obtain ⟨k1, hk1⟩ : ∃ z, k + 1 = z := ⟨_, rfl⟩
      have e1 : a + (u + 1) = k1 := by omega
      rw [hk, e1] at hB
      obtain ⟨z, hz⟩ : ∃ z, a + p = z := ⟨_, rfl⟩
      rw [hz] at w1
      have q1 : k < z := by omega
      have w2 : IntKind.i64.wrap ((k : Int) + 1) = (k1 : Int) := by rw [wrap64 (by omega)]; omega
      have g1 := es_getM hB.1
      have r1 := es_bndM hB.1
      have g2 := es_getM hB.2.1
      have r2 := es_bndM hB.2.1
      have s1 := es_setM (D := D') (i := k) (y := y) (by omega)
      have s2 := es_setM (D := D'.set k y) (i := k1) (y := x) (by simp; omega)
      have hsw := hB.2.2
      rw [swap2_eq hB.1 hB.2.1] at hsw
      have p1 : k < N := by omega
      have p2 : k1 < N := by omega
      have p5 : k * 2 + 2 ≤ (rowE esM D').length := by rw [es_lenM]; omega
      have p6 : k1 * 2 + 2 ≤ (rowE esM (D'.set k y)).length := by rw [es_lenM]; simp; omega
      rw [hk]
      simp (maxSteps := 4000000) [List.getElem?_cons_zero, List.getElem?_cons_succ, -Prod.forall, -regionA_true, w1, q1]
      refine Post_bndD [] _ (by rfl) (by simp (maxSteps := 4000000) [List.getElem?_cons_zero, List.getElem?_cons_succ, ]; exact rfl) ?_
      repeat (first
        | refine PostD_go _ (by rfl) (by rfl) (by simp (maxSteps := 4000000) [List.getElem?_cons_zero, List.getElem?_cons_succ, -getElem?_pos, w2, p1, p2, p5, p6, g1, g2, r1, r2, s1, s2, hb]; exact rfl) (by first | exact .inl rfl | exact .inr rfl) (by rfl) ?_
        | refine PostD_no (by rfl) (by rfl) ?_)
      refine PostD_end ?_
      simp (maxSteps := 4000000) [List.getElem?_cons_zero, List.getElem?_cons_succ, -Prod.forall, w2]
      exact ⟨u + 1, by omega, by omega, by omega, by rw [hsw]⟩
    · obtain rfl : u = p := by omega
      obtain ⟨k, hk⟩ : ∃ z, a + u = z := ⟨_, rfl⟩
      rw [hk] at w1 ⊢
      have hlow := lowS_setset (σ := σ) (b := b) (X := rowE esM D) (lowL_rowE (E := esM) (n := σ.length) (fun x => by simp [esM]) (pre ++ (mrg c [x] R ++ post)))
      have e2 : pre ++ (R.take u ++ x :: (R.drop u ++ post)) = pre ++ (mrg c [x] R ++ post) := by rw [hfin]; simp
      rw [e2]
      obtain ⟨X, hX⟩ : ∃ X, rowE esM (pre ++ (mrg c [x] R ++ post)) = X := ⟨_, rfl⟩
      rw [hX] at hlow ⊢
      simp (maxSteps := 4000000) [List.getElem?_cons_zero, List.getElem?_cons_succ, -Prod.forall, w1]
      rw [need_of hlow]
theorem merge_lastM {g : Nat} {c : (List UInt8 × List UInt8) → (List UInt8 × List UInt8) → Int} {Q : (List UInt8 × List UInt8) → Prop} (h : CmpOkM g c Q) (b : Nat) (σ : List (List AV)) (pre : List (List UInt8 × List UInt8)) (x : List UInt8 × List UInt8) (L post : List (List UInt8 × List UInt8)) (N a m e : Nat) (hN : N ≤ 2 ^ 30) (hNe : N = pre.length + (L.length + (1 + post.length))) (ha : a = pre.length) (hm : m = a + L.length) (he : e = m + 1) (h2 : 2 ≤ L.length)
    (hL : Srt c L) (hx : Q x) (hQ : ∀ x ∈ L, Q x) (hb : b < σ.length) :
    ev 156 [.ms 41 2 b 0 N, .int .i64 a, .int .i64 m, .int .i64 e, .fn g []] (σ.set b (rowE esM (pre ++ (L ++ ([x] ++ post))))) = some (.tup [], σ.set b (rowE esM (pre ++ (mrg c L [x] ++ post)))) := by
  obtain ⟨D, hD⟩ : ∃ D, pre ++ (L ++ ([x] ++ post)) = D := ⟨_, rfl⟩
  have hDl : D.length = N := by rw [← hD]; simp; omega
  have hDx : D[m]? = some x := by
    rw [← hD, hm, ha, List.getElem?_append_right (by omega), List.getElem?_append_right (by omega)]; simp
  have hDL : ∀ k, k < L.length → D[a + k]? = L[k]? := by
    intro k hk
    rw [← hD, ha, List.getElem?_append_right (by omega), List.getElem?_append_left (by omega)]
    congr 1; omega
  have w0 : IntKind.i64.wrap ((m : Int) - a) = (L.length : Int) := by rw [wrap64 (by omega)]; omega
  have w1 : IntKind.i64.wrap ((e : Int) - m) = 1 := by rw [wrap64 (by omega)]; omega
  have hgl := h.lt
  have q0 : ¬ (L.length : Int) = 1 := by omega
  have q0' : ¬ L.length = 1 := by omega
  rw [hD]
  refine EV_post rfl Tryz.func156 rfl (by simp [Tryz.ntmps156]) (by kernel_rfl) (by kernel_rfl) ?_
  simp (maxSteps := 4000000) [List.getElem?_cons_zero, List.getElem?_cons_succ, -Prod.forall, w0, w1, q0, q0']
  refine Post_loop (I := fun p : Nat × Nat => ⟨[(0, .ms 41 2 b 0 N), (2, .int .i64 m), (4, .fn g []), (14, .int .i64 p.1), (15, .int .i64 p.2)], [], σ.set b (rowE esM D)⟩)
    (Pr := fun p => a ≤ p.1 ∧ p.1 ≤ p.2 ∧ p.2 ≤ m ∧ (∀ y ∈ L.take (p.1 - a), ¬ c x y < 0) ∧ (∀ y ∈ L.drop (p.2 - a), c x y < 0)) (μ := fun p => p.2 - p.1) (a := (a, m)) (by simp) (by simp [hm]) ?_
  rintro ⟨i, j⟩ ⟨h1, h2, h3, h4, h5⟩
  simp only at h1 h2 h3 h4 h5 ⊢
  by_cases hc : i < j
  · have hw := half_w (i := i) (j := j) (by omega)
    obtain ⟨z, hz⟩ : ∃ z, i + j = z := ⟨_, rfl⟩
    obtain ⟨k, hk⟩ : ∃ z, (i + j) / 2 = z := ⟨_, rfl⟩
    rw [hk, hz] at hw
    obtain ⟨hw1, hw2, hw3, hw4⟩ := hw
    have hk1 : i ≤ k ∧ k < j := by omega
    obtain ⟨y, hy⟩ : ∃ y, L[k - a]? = some y := ⟨_, List.getElem?_eq_getElem (by omega)⟩
    have hDy : D[k]? = some y := by rw [← hy, ← hDL _ (by omega)]; congr 1; omega
    have g1 := es_getM hDx
    have r1 := es_bndM hDx
    have g2 := es_getM hDy
    have r2 := es_bndM hDy
    have hcmp := h.run x y hx (hQ y (List.mem_of_getElem? hy))
    have p1 : k < N := by omega
    have p2 : m < N := by omega
    have w5 : IntKind.i64.wrap ((k : Int) + 1) = ((k + 1 : Nat) : Int) := by rw [wrap64 (by omega)]; omega
    simp (maxSteps := 4000000) [List.getElem?_cons_zero, List.getElem?_cons_succ, -Prod.forall, -regionA_true, hc, hw1, hw2, hw3, hw4]
    refine Post_bndD [] _ (by rfl) (by simp (maxSteps := 4000000) [List.getElem?_cons_zero, List.getElem?_cons_succ, ]; exact rfl) ?_
    repeat (first
      | refine PostD_go _ (by rfl) (by rfl) (by simp (maxSteps := 4000000) [List.getElem?_cons_zero, List.getElem?_cons_succ, -getElem?_pos, p1, p2, g1, g2, r1, r2, hgl, hcmp, hb]; exact rfl) (by first | exact .inl rfl | exact .inr rfl) (by rfl) ?_
      | refine PostD_no (by rfl) (by rfl) ?_)
    refine PostD_end ?_
    by_cases hlt : c x y < 0
    · simp (maxSteps := 4000000) [List.getElem?_cons_zero, List.getElem?_cons_succ, -Prod.forall, hlt]
      refine ⟨i, k, ⟨by omega, by omega, by omega, fun w hw => ?_, fun w hw => ?_⟩, by omega, by simp, by simp⟩
      · have := h4 w hw; omega
      · obtain ⟨q, hq, hw⟩ := mem_drop_get hw
        exact h.tp.lt_le hlt (srt_get h.tp hL hq hy hw)
    · simp (maxSteps := 4000000) [List.getElem?_cons_zero, List.getElem?_cons_succ, -Prod.forall, hlt, w5]
      refine ⟨k + 1, j, ⟨by omega, by omega, by omega, fun w hw => ?_, fun w hw => ?_⟩, by omega, by simp⟩
      · obtain ⟨q, hq, hw⟩ := mem_take_get hw
        have := h.tp.trans _ _ _ (srt_get h.tp hL (by omega) hw hy) (h.tp.nlt.1 hlt)
        have := h.tp.flip x w; omega
      · exact h5 w hw
  · have hij : i = j := by omega
    subst hij
    simp (maxSteps := 4000000) [List.getElem?_cons_zero, List.getElem?_cons_succ, -Prod.forall, hc]
    obtain ⟨p, hp⟩ : ∃ p, i - a = p := ⟨_, rfl⟩
    rw [hp] at h4 h5
    have hfin : mrg c L [x] = L.take p ++ x :: L.drop p := by
      conv => lhs; rw [← List.take_append_drop p L]
      exact mrg_one h4 h5
    have hi : i = a + p := by omega
    have hpR : p ≤ L.length := by omega
    refine Post_loop (I := fun u : Nat => ⟨[(0, .ms 41 2 b 0 N), (14, .int .i64 i), (17, .int .i64 ((a + u : Nat) : Int))], [], σ.set b (rowE esM (pre ++ (L.take u ++ x :: (L.drop u ++ post))))⟩)
      (Pr := fun u => p ≤ u ∧ u ≤ L.length) (μ := fun u => u - p) (a := L.length) (by simp [← hD, hm]) (by simp; omega) ?_
    rintro u ⟨hu, hul⟩
    by_cases huc : p < u
    · obtain ⟨w, rfl⟩ : ∃ w, u = w + 1 := ⟨u - 1, by omega⟩
      obtain ⟨y, hy⟩ : ∃ y, L[w]? = some y := ⟨_, List.getElem?_eq_getElem (by omega)⟩
      have hB := bubL (pre := pre) (rest := post) (x := x) hy
      rw [← ha] at hB
      obtain ⟨D', hD'⟩ : ∃ D', pre ++ (L.take (w + 1) ++ x :: (L.drop (w + 1) ++ post)) = D' := ⟨_, rfl⟩
      rw [hD'] at hB ⊢
      have hDl' : D'.length = N := by rw [← hD']; simp; omega
      obtain ⟨k, hk⟩ : ∃ z, a + w = z := ⟨_, rfl⟩
      obtain ⟨k1, hk1⟩ : ∃ z, k + 1 = z := ⟨_, rfl⟩
      have e1 : a + (w + 1) = k1 := by omega
      rw [hk, e1] at hB
      have q1 : i < k1 := by omega
      have w2 : IntKind.i64.wrap ((k1 : Int) - 1) = (k : Int) := by rw [wrap64 (by omega)]; omega
      have g1 := es_getM hB.1
      have r1 := es_bndM hB.1
      have g2 := es_getM hB.2.1
      have r2 := es_bndM hB.2.1
      have s1 := es_setM (D := D') (i := k1) (y := y) (by omega)
      have s2 := es_setM (D := D'.set k1 y) (i := k) (y := x) (by simp; omega)
      have hsw := hB.2.2
      rw [swap2_eq hB.2.1 hB.1] at hsw
      have p1 : k < N := by omega
      have p2 : k1 < N := by omega
      have p5 : k1 * 2 + 2 ≤ (rowE esM D').length := by rw [es_lenM]; omega
      have p6 : k * 2 + 2 ≤ (rowE esM (D'.set k1 y)).length := by rw [es_lenM]; simp; omega
      rw [e1]
      simp (maxSteps := 4000000) [List.getElem?_cons_zero, List.getElem?_cons_succ, -Prod.forall, -regionA_true, q1]
      refine Post_bndD [] _ (by rfl) (by simp (maxSteps := 4000000) [List.getElem?_cons_zero, List.getElem?_cons_succ, ]; exact rfl) ?_
      repeat (first
        | refine PostD_go _ (by rfl) (by rfl) (by simp (maxSteps := 4000000) [List.getElem?_cons_zero, List.getElem?_cons_succ, -getElem?_pos, w2, p1, p2, p5, p6, g1, g2, r1, r2, s1, s2, hb]; exact rfl) (by first | exact .inl rfl | exact .inr rfl) (by rfl) ?_
        | refine PostD_no (by rfl) (by rfl) ?_)
      refine PostD_end ?_
      simp (maxSteps := 4000000) [List.getElem?_cons_zero, List.getElem?_cons_succ, -Prod.forall, w2]
      exact ⟨w, ⟨by omega, by omega⟩, by omega, by omega, by rw [hsw]⟩
    · obtain rfl : u = p := by omega
      have e3 : a + u = i := by omega
      rw [e3]
      have hlow := lowS_setset (σ := σ) (b := b) (X := rowE esM D) (lowL_rowE (E := esM) (n := σ.length) (fun x => by simp [esM]) (pre ++ (mrg c L [x] ++ post)))
      have e2 : pre ++ (L.take u ++ x :: (L.drop u ++ post)) = pre ++ (mrg c L [x] ++ post) := by rw [hfin]; simp
      rw [e2]
      obtain ⟨X, hX⟩ : ∃ X, rowE esM (pre ++ (mrg c L [x] ++ post)) = X := ⟨_, rfl⟩
      rw [hX] at hlow ⊢
      simp (maxSteps := 4000000) [List.getElem?_cons_zero, List.getElem?_cons_succ, -Prod.forall]
      rw [need_of hlow]
end Go.Proofs.Tryz.Ai
end
section
/- Sorting a row of texts: merging two rows. -/
namespace Go.Proofs.Tryz.Ai
open Go Go.AI Go.Proofs
set_option maxHeartbeats 2000000
set_option linter.unusedVariables false

theorem merge_eqM {g : Nat} {c : (List UInt8 × List UInt8) → (List UInt8 × List UInt8) → Int} {Q : (List UInt8 × List UInt8) → Prop} (h : CmpOkM g c Q) (n : Nat) : MrgOkM g c Q n := by
  induction n using Nat.strongRecOn with
  | _ n ih =>
  intro b σ pre L R post N a m e hn hN hNe ha hm he hL0 hR0 hL hR hQL hQR hb
  by_cases l1 : L.length = 1
  · obtain ⟨x, rfl⟩ := List.length_eq_one_iff.1 l1
    exact merge_oneM h b σ pre x R post N a m e hN (by simpa using hNe) ha (by simpa using hm) he hR (hQL x (by simp)) hQR hb
  by_cases r1 : R.length = 1
  · obtain ⟨x, rfl⟩ := List.length_eq_one_iff.1 r1
    exact merge_lastM h b σ pre x L post N a m e hN (by simpa using hNe) ha hm (by simpa using he) (by omega) hL (hQR x (by simp)) hQL hb
  obtain ⟨D, hD⟩ : ∃ D, pre ++ (L ++ (R ++ post)) = D := ⟨_, rfl⟩
  have hDl : D.length = N := by rw [← hD]; simp; omega
  have hDL : ∀ k, k < L.length → D[a + k]? = L[k]? := by
    intro k hk
    rw [← hD, ha, List.getElem?_append_right (by omega), List.getElem?_append_left (by omega)]
    congr 1; omega
  have hDR : ∀ k, k < R.length → D[m + k]? = R[k]? := by
    intro k hk
    rw [← hD, hm, ha, List.getElem?_append_right (by omega), List.getElem?_append_right (by omega), List.getElem?_append_left (by omega)]
    congr 1; omega
  have w0 : IntKind.i64.wrap ((m : Int) - a) = (L.length : Int) := by rw [wrap64 (by omega)]; omega
  have w1 : IntKind.i64.wrap ((e : Int) - m) = (R.length : Int) := by rw [wrap64 (by omega)]; omega
  have hgl := h.lt
  have q0 : ¬ (L.length : Int) = 1 := by omega
  have q1 : ¬ (R.length : Int) = 1 := by omega
  obtain ⟨mid, nn, p0, S0, S1, k0, hw1, hw2, hw3, hw4, w2, w4, k1, k2⟩ := cut_nums (l := L.length) (r := R.length) (N := N) hm he (by omega) hN (by omega) (by omega)
  obtain ⟨k01, k02, k03, k04, k05, k06, k07, k08, k09, k10, k11⟩ := k0
  have hlow := lowS_setset (σ := σ) (b := b) (X := rowE esM D) (lowL_rowE (E := esM) (n := σ.length) (fun x => by simp [esM]) (pre ++ (mrg c L R ++ post)))
  rw [hD]
  obtain ⟨fin, hfin⟩ : ∃ X, rowE esM (pre ++ (mrg c L R ++ post)) = X := ⟨_, rfl⟩
  rw [hfin] at hlow ⊢
  refine EV_post rfl Tryz.func156 rfl (by simp [Tryz.ntmps156]) (by kernel_rfl) (by kernel_rfl) ?_
  have hae : ((a + e : Nat) : Int) = (a : Int) + e := by omega
  rw [hae] at hw1 hw2 hw3
  simp (maxSteps := 4000000) [List.getElem?_cons_zero, List.getElem?_cons_succ, -Prod.forall, w0, w1, q0, q1, l1, r1, hw1, hw2, hw3, hw4, w2]
  clear hae
  refine Post_of_eq (st2 := ⟨[(0, .ms 41 2 b 0 N), (1, .int .i64 a), (2, .int .i64 m), (3, .int .i64 e), (4, .fn g []), (18, .int .i64 mid), (19, .int .i64 nn), (20, .int .i64 S0), (21, .int .i64 S1)], [], σ.set b (rowE esM D)⟩) ?_ ?_
  · by_cases hmm : mid < m
    · obtain ⟨w3, e1⟩ := k1 hmm
      simp [hmm, w3, e1]
    · obtain ⟨e0, e1⟩ := k2 hmm
      simp [hmm, e0, e1]
  clear k1 k2
  simp (maxSteps := 4000000) [List.getElem?_cons_zero, List.getElem?_cons_succ, -Prod.forall, w4]
  clear w0 w1 w2 w4 hw1 hw2 hw3 hw4 q0 q1 l1 r1
  refine Post_loop (I := fun p : Nat × Nat => ⟨[(0, .ms 41 2 b 0 N), (1, .int .i64 a), (2, .int .i64 m), (3, .int .i64 e), (4, .fn g []), (18, .int .i64 mid), (19, .int .i64 nn), (20, .int .i64 p.1), (21, .int .i64 p.2), (22, .int .i64 p0)], [], σ.set b (rowE esM D)⟩)
    (Pr := fun p => S0 ≤ p.1 ∧ p.1 ≤ p.2 ∧ p.2 ≤ S1 ∧ (p.1 = S0 ∨ below1 c L R (p.1 - a) (mid - p.1)) ∧ (p.2 = S1 ∨ below2 c L R (p.2 - a) (mid - p.2))) (μ := fun p => p.2 - p.1) (a := (S0, S1)) (by simp) ⟨Nat.le_refl _, k02, Nat.le_refl _, .inl rfl, .inl rfl⟩ ?_
  rintro ⟨i, j⟩ ⟨h1, h2, h3, h4, h5⟩
  simp only at h1 h2 h3 h4 h5 ⊢
  by_cases hc : i < j
  · have hw := half_w (i := i) (j := j) (by omega)
    obtain ⟨z, hz⟩ : ∃ z, i + j = z := ⟨_, rfl⟩
    obtain ⟨k, hk⟩ : ∃ z, (i + j) / 2 = z := ⟨_, rfl⟩
    rw [hk, hz] at hw
    obtain ⟨hv1, hv2, hv3, hv4⟩ := hw
    have hk1 : i ≤ k ∧ k < j := by omega
    obtain ⟨x, hx⟩ : ∃ y, L[k - a]? = some y := ⟨_, List.getElem?_eq_getElem (by omega)⟩
    obtain ⟨y, hy⟩ : ∃ y, R[mid - k - 1]? = some y := ⟨_, List.getElem?_eq_getElem (by omega)⟩
    obtain ⟨k2, hk2⟩ : ∃ z, m + (mid - k - 1) = z := ⟨_, rfl⟩
    have hDx : D[k]? = some x := by rw [← hx, ← hDL _ (by omega)]; congr 1; omega
    have hDy : D[k2]? = some y := by rw [← hy, ← hDR _ (by omega), hk2]
    have g1 := es_getM hDx
    have r1 := es_bndM hDx
    have g2 := es_getM hDy
    have r2 := es_bndM hDy
    have hcmp := h.run y x (hQR y (List.mem_of_getElem? hy)) (hQL x (List.mem_of_getElem? hx))
    have p1 : k < N := by omega
    have p2 : k2 < N := by omega
    have v5 : IntKind.i64.wrap ((p0 : Int) - k) = (k2 : Int) := by rw [wrap64 (by omega)]; omega
    have v6 : IntKind.i64.wrap ((k : Int) + 1) = ((k + 1 : Nat) : Int) := by rw [wrap64 (by omega)]; omega
    simp (maxSteps := 4000000) [List.getElem?_cons_zero, List.getElem?_cons_succ, -Prod.forall, -regionA_true, hc, hv1, hv2, hv3, hv4]
    refine Post_bndD [] _ (by rfl) (by simp (maxSteps := 4000000) [List.getElem?_cons_zero, List.getElem?_cons_succ, ]; exact rfl) ?_
    repeat (first
      | refine PostD_go _ (by rfl) (by rfl) (by simp (maxSteps := 4000000) [List.getElem?_cons_zero, List.getElem?_cons_succ, -getElem?_pos, p1, p2, v5, g1, g2, r1, r2, hgl, hcmp, hb]; exact rfl) (by first | exact .inl rfl | exact .inr rfl) (by rfl) ?_
      | refine PostD_no (by rfl) (by rfl) ?_)
    refine PostD_end ?_
    by_cases hlt : c y x < 0
    · simp (maxSteps := 4000000) [List.getElem?_cons_zero, List.getElem?_cons_succ, -Prod.forall, hlt]
      refine ⟨i, k, ⟨by omega, by omega, by omega, ?_, .inr ⟨x, y, hx, hy, hlt⟩⟩, by omega, by simp, by simp⟩
      exact h4
    · simp (maxSteps := 4000000) [List.getElem?_cons_zero, List.getElem?_cons_succ, -Prod.forall, hlt, v6]
      refine ⟨k + 1, j, ⟨by omega, by omega, by omega, .inr ⟨x, y, ?_, ?_, hlt⟩, h5⟩, by omega, by simp⟩
      · rw [← hx]; congr 1; omega
      · rw [← hy]; congr 1
  · obtain rfl : i = j := by omega
    obtain ⟨s, hs⟩ : ∃ s, i - a = s := ⟨_, rfl⟩
    obtain ⟨t, ht⟩ : ∃ t, mid - i = t := ⟨_, rfl⟩
    rw [hs, ht] at h4 h5
    have hcut := mrg_cut h.tp hL hR (s := s) (t := t) (by
      rcases h4 with h4 | h4
      · by_cases q : s = 0
        · exact .inl q
        · exact .inr (.inl (by omega))
      · exact .inr (.inr h4)) (by
      rcases h5 with h5 | h5
      · by_cases q : t = 0
        · exact .inl q
        · exact .inr (.inl (by omega))
      · exact .inr (.inr h5))
    obtain ⟨E, hE⟩ : ∃ E, nn - i = E := ⟨_, rfl⟩
    have v1 : IntKind.i64.wrap ((nn : Int) - i) = (E : Int) := by rw [wrap64 (by omega)]; omega
    have hsL : s ≤ L.length := by omega
    have htR : t ≤ R.length := by omega
    have hi : i = a + s := by omega
    have hmi : mid = a + (s + t) := by omega
    have hEm : E = m + t := by omega
    clear h4 h5
    have hLs := List.take_append_drop s L
    have hRs := List.take_append_drop t R
    have lA : (L.take s).length = s := by simp; omega
    have lB : (L.drop s).length = L.length - s := by simp
    have lC : (R.take t).length = t := by simp; omega
    have lD : (R.drop t).length = R.length - t := by simp
    have sA := srt_take hL s
    have sB := srt_drop hL s
    have sC := srt_take hR t
    have sD := srt_drop hR t
    have QA : ∀ x ∈ L.take s, Q x := fun x hx => hQL x (List.mem_of_mem_take hx)
    have QB : ∀ x ∈ L.drop s, Q x := fun x hx => hQL x (List.mem_of_mem_drop hx)
    have QC : ∀ x ∈ R.take t, Q x := fun x hx => hQR x (List.mem_of_mem_take hx)
    have QD : ∀ x ∈ R.drop t, Q x := fun x hx => hQR x (List.mem_of_mem_drop hx)
    rw [hcut] at hfin
    generalize L.take s = A at *
    generalize L.drop s = B at *
    generalize R.take t = C at *
    generalize R.drop t = F at *
    subst hLs hRs
    simp only [List.length_append] at *
    have hrot : 0 < B.length → 0 < C.length → _ := fun q1 q2 => rotate_eqM b σ (pre ++ A) B C (F ++ post) g N i m E hN (by simp; omega) (by simp; omega) (by omega) (by omega) q1 q2 hb
    have hm1 : 0 < A.length → 0 < C.length → _ := fun q1 q2 => ih (s + t) (by omega) b σ pre A C (B ++ (F ++ post)) N a i mid (by omega) hN (by simp; omega) ha (by omega) (by omega) q1 q2 sA sC QA QC hb
    have hm2 : 0 < B.length → 0 < F.length → _ := fun q1 q2 => ih (B.length + F.length) (by omega) b σ (pre ++ mrg c A C) B F post N mid E e rfl hN (by simp [(mrg_perm A C).length_eq]; omega) (by simp [(mrg_perm A C).length_eq]; omega) (by omega) (by omega) q1 q2 sB sD QB QD hb
    simp only [List.append_assoc] at hrot hm1 hm2 hfin hD
    rw [hD] at hrot
    have n1 : ¬ (0 < B.length ∧ 0 < C.length) → rowE esM D = rowE esM (pre ++ (A ++ (C ++ (B ++ (F ++ post))))) := by
      intro q
      rw [← hD]
      rcases Nat.eq_zero_or_pos B.length with q1 | q1
      · rw [List.length_eq_zero_iff.1 q1]; simp
      · rw [List.length_eq_zero_iff.1 (show C.length = 0 by omega)]; simp
    have n2 : ¬ (0 < A.length ∧ 0 < C.length) → rowE esM (pre ++ (A ++ (C ++ (B ++ (F ++ post))))) = rowE esM (pre ++ (mrg c A C ++ (B ++ (F ++ post)))) := by
      intro q
      rcases Nat.eq_zero_or_pos A.length with q1 | q1
      · rw [List.length_eq_zero_iff.1 q1]; simp
      · rw [List.length_eq_zero_iff.1 (show C.length = 0 by omega)]; simp
    have n3 : ¬ (0 < B.length ∧ 0 < F.length) → rowE esM (pre ++ (mrg c A C ++ (B ++ (F ++ post)))) = fin := by
      intro q
      rw [← hfin]
      rcases Nat.eq_zero_or_pos B.length with q1 | q1
      · rw [List.length_eq_zero_iff.1 q1]; simp
      · rw [List.length_eq_zero_iff.1 (show F.length = 0 by omega)]; simp
    rw [hfin] at hm2
    generalize rowE esM D = X0 at *
    generalize rowE esM (pre ++ (A ++ (C ++ (B ++ (F ++ post))))) = X1 at *
    generalize rowE esM (pre ++ (mrg c A C ++ (B ++ (F ++ post)))) = X2 at *
    clear hfin hcut hDL hDR ih k05 k06 k07 hD hDl
    have hrot' : i < m → m < E → _ := fun q1 q2 => hrot (by omega) (by omega)
    have hm1' : a < i → i < mid → _ := fun q1 q2 => hm1 (by omega) (by omega)
    have hm2' : mid < E → E < e → _ := fun q1 q2 => hm2 (by omega) (by omega)
    clear hrot hm1 hm2
    by_cases c1 : i < m <;> by_cases c2 : m < E <;> by_cases c4 : i < mid <;> by_cases c5 : mid < E <;> (first | (exfalso; omega) | skip)
    all_goals by_cases c3 : a < i <;> by_cases c6 : E < e <;> (first | (exfalso; omega) | skip)
    all_goals
      (try have e1 := n1 (by omega)
       try have e2 := n2 (by omega)
       try have e3 := n3 (by omega)
       clear n1 n2 n3
       try subst e1
       try subst e2
       try subst e3
       clear lA lB lC lD sA sB sC sD QA QB QC QD hL hR hQL hQR hL0 hR0 hsL htR hn hNe hi hmi hEm hm he)
    all_goals
      (simp (maxSteps := 4000000) [List.getElem?_cons_zero, List.getElem?_cons_succ, -Prod.forall, v1, c1, c2, c3, c4, c5, c6, hrot', hm1', hm2']
       try rw [need_of hlow])
end Go.Proofs.Tryz.Ai
end
section
/- Sorting a row of texts: all of it. -/
namespace Go.Proofs.Tryz.Ai
open Go Go.AI Go.Proofs
set_option maxHeartbeats 2000000
set_option linter.unusedVariables false

theorem stable_eqM {g : Nat} {c : (List UInt8 × List UInt8) → (List UInt8 × List UInt8) → Int} {Q : (List UInt8 × List UInt8) → Prop} (h : CmpOkM g c Q) (b : Nat) (σ : List (List AV)) (L : List (List UInt8 × List UInt8)) (n : Nat) (hL : ∀ x ∈ L, Q x) (hn : L.length = n) (hN : n ≤ 2 ^ 30) (hb : b < σ.length) :
    ev 137 [.ms 41 2 b 0 n, .int .i64 n, .fn g []] (σ.set b (rowE esM L)) = some (.tup [], σ.set b (rowE esM (isrt c L))) := by
  refine EV_post rfl Tryz.func137 rfl (by simp [Tryz.ntmps137]) (by kernel_rfl) (by kernel_rfl) ?_
  simp (maxSteps := 4000000) [List.getElem?_cons_zero, List.getElem?_cons_succ, -Prod.forall]
  refine Post_loop (I := fun q : Nat => ⟨[(0, .ms 41 2 b 0 n), (1, .int .i64 n), (2, .fn g []), (6, .int .i64 20), (7, .int .i64 ((20 * q : Nat) : Int)), (8, .int .i64 ((20 * q + 20 : Nat) : Int))], [], σ.set b (rowE esM (blk c 20 (L.take (20 * q)) ++ L.drop (20 * q)))⟩)
    (Pr := fun q => 20 * q ≤ n) (μ := fun q => n - 20 * q) (a := 0) (by simp [blk_small, isrt]) (by simp) ?_
  intro q hq
  obtain ⟨a, ha⟩ : ∃ a, 20 * q = a := ⟨_, rfl⟩
  rw [ha] at hq ⊢
  have hpl : (blk c 20 (L.take a)).length = a := by rw [blk_len]; simp; omega
  by_cases hc : a + 20 ≤ n
  · have hX : L.drop a = (L.drop a).take 20 ++ L.drop (a + 20) := by rw [← List.drop_drop, List.take_append_drop]
    have hins := insertion_eqM h b σ (blk c 20 (L.take a)) ((L.drop a).take 20) (L.drop (a + 20)) (fun x hx => hL x (List.mem_of_mem_drop (List.mem_of_mem_take hx))) n a (a + 20) hN (by rw [hpl]; simp; omega) hpl.symm (by simp; omega) hb
    rw [← hX, ← List.append_assoc, ← blk_next (by omega) q ha.symm (by omega)] at hins
    have w1 : IntKind.i64.wrap (((a + 20 : Nat) : Int) + 20) = ((a + 20 + 20 : Nat) : Int) := by rw [wrap64 (by omega)]; omega
    obtain ⟨a2, ha2⟩ : ∃ z, a + 20 = z := ⟨_, rfl⟩
    rw [ha2] at hins w1 hc ⊢
    simp (maxSteps := 4000000) [List.getElem?_cons_zero, List.getElem?_cons_succ, -Prod.forall, hc, hins, w1]
    refine ⟨q + 1, by omega, by omega, by omega, ?_⟩
    rw [show 20 * (q + 1) = a2 by omega]
  · obtain ⟨a2, ha2⟩ : ∃ z, a + 20 = z := ⟨_, rfl⟩
    have hins := insertion_eqM h b σ (blk c 20 (L.take a)) (L.drop a) [] (fun x hx => hL x (List.mem_of_mem_drop hx)) n a n hN (by rw [hpl]; simp; omega) hpl.symm (by simp; omega) hb
    rw [List.append_nil, List.append_nil, ← blk_last (by omega) q ha.symm (by omega) (by omega)] at hins
    rw [ha2] at hc ⊢
    simp (maxSteps := 4000000) [List.getElem?_cons_zero, List.getElem?_cons_succ, -Prod.forall, hc, hins]
    refine Post_loop (I := fun k : Nat => ⟨[(0, .ms 41 2 b 0 n), (1, .int .i64 n), (2, .fn g []), (6, .int .i64 k)], [], σ.set b (rowE esM (blk c k L))⟩)
      (Pr := fun k => 0 < k ∧ k ≤ 2 ^ 31) (μ := fun k => n - k) (a := 20) (by simp) (by simp) ?_
    clear hins hpl hc ha ha2 hq
    rintro k ⟨hk0, hk⟩
    by_cases hkn : k < n
    · have w1 : IntKind.i64.wrap (2 * (k : Int)) = ((2 * k : Nat) : Int) := by rw [wrap64 (by omega)]; omega
      obtain ⟨k2, hk2⟩ : ∃ z, 2 * k = z := ⟨_, rfl⟩
      rw [hk2] at w1
      simp (maxSteps := 4000000) [List.getElem?_cons_zero, List.getElem?_cons_succ, -Prod.forall, hkn, w1]
      refine Post_loop (I := fun q : Nat => ⟨[(0, .ms 41 2 b 0 n), (1, .int .i64 n), (2, .fn g []), (6, .int .i64 k), (7, .int .i64 ((k2 * q : Nat) : Int)), (8, .int .i64 ((k2 * q + k2 : Nat) : Int))], [], σ.set b (rowE esM (blk c k2 (L.take (k2 * q)) ++ blk c k (L.drop (k2 * q))))⟩)
        (Pr := fun q => k2 * q ≤ n) (μ := fun q => n - k2 * q) (a := 0) (by simp [blk_small, isrt]) (by simp) ?_
      intro q hq
      obtain ⟨a, ha⟩ : ∃ a, k2 * q = a := ⟨_, rfl⟩
      have hq1 : k2 * (q + 1) = a + k2 := by rw [Nat.mul_succ, ha]
      rw [ha] at hq ⊢
      have hpl : (blk c k2 (L.take a)).length = a := by rw [blk_len]; simp; omega
      have hw3 : IntKind.i64.wrap ((a : Int) + k) = ((a + k : Nat) : Int) := by rw [wrap64 (by omega)]; omega
      have hS1 := isrt_srt' h.tp ((L.drop a).take k)
      have hQ1 : ∀ x ∈ isrt c ((L.drop a).take k), Q x := fun x hx => hL x (List.mem_of_mem_drop (List.mem_of_mem_take (isrt_mem.1 hx)))
      by_cases hc : a + k2 ≤ n
      · have e1 : blk c k (L.drop a) = isrt c ((L.drop a).take k) ++ (isrt c ((L.drop (a + k)).take k) ++ blk c k (L.drop (a + k2))) := by
          rw [blk_step hk0, List.drop_drop, blk_step hk0 (L.drop (a + k)), List.drop_drop]
          congr 4; omega
        have hQ2 : ∀ x ∈ isrt c ((L.drop (a + k)).take k), Q x := fun x hx => hL x (List.mem_of_mem_drop (List.mem_of_mem_take (isrt_mem.1 hx)))
        have hm := merge_eqM h _ b σ (blk c k2 (L.take a)) (isrt c ((L.drop a).take k)) (isrt c ((L.drop (a + k)).take k)) (blk c k (L.drop (a + k2))) n a (a + k) (a + k2) rfl hN (by rw [hpl, isrt_len, isrt_len, blk_len]; simp; omega) hpl.symm (by rw [isrt_len]; simp; omega) (by rw [isrt_len]; simp; omega) (by rw [isrt_len]; simp; omega) (by rw [isrt_len]; simp; omega) hS1 (isrt_srt' h.tp _) hQ1 hQ2 hb
        rw [← e1, ← isrt_mrg h.tp, ← List.drop_drop, ← List.take_add, ← List.append_assoc, show k + k = k2 by omega, ← blk_next (by omega) q ha.symm (by omega)] at hm
        obtain ⟨m, hmm⟩ : ∃ z, a + k = z := ⟨_, rfl⟩
        obtain ⟨a2, ha2⟩ : ∃ z, a + k2 = z := ⟨_, rfl⟩
        have w4 : IntKind.i64.wrap ((a2 : Int) + k2) = ((a2 + k2 : Nat) : Int) := by rw [wrap64 (by omega)]; omega
        rw [hmm, ha2] at hm
        rw [hmm] at hw3
        rw [ha2] at hc hq1 ⊢
        simp (maxSteps := 4000000) [List.getElem?_cons_zero, List.getElem?_cons_succ, -Prod.forall, hc, hm, hw3, w1, w4]
        refine ⟨q + 1, by omega, by omega, by rw [← hq1]; simp, ?_⟩
        rw [hq1]
      · obtain ⟨a2, ha2⟩ : ∃ z, a + k2 = z := ⟨_, rfl⟩
        rw [ha2] at hc ⊢
        have w5 : IntKind.i64.wrap ((k : Int) * 2) = (k2 : Int) := by rw [wrap64 (by omega)]; omega
        have hfin : blk c k2 L = blk c k2 (L.take a) ++ isrt c (L.drop a) := blk_last (by omega) q ha.symm (by omega) (by omega)
        obtain ⟨m, hmm⟩ : ∃ z, a + k = z := ⟨_, rfl⟩
        rw [hmm] at hw3
        by_cases hmn : m < n
        · have e1 : blk c k (L.drop a) = isrt c ((L.drop a).take k) ++ isrt c (L.drop m) := by
            rw [blk_step hk0, List.drop_drop, hmm, blk_small (L := L.drop m) (by simp; omega)]
          have hQ2 : ∀ x ∈ isrt c (L.drop m), Q x := fun x hx => hL x (List.mem_of_mem_drop (isrt_mem.1 hx))
          have hm := merge_eqM h _ b σ (blk c k2 (L.take a)) (isrt c ((L.drop a).take k)) (isrt c (L.drop m)) [] n a m n rfl hN (by rw [hpl, isrt_len, isrt_len]; simp; omega) hpl.symm (by rw [isrt_len]; simp; omega) (by rw [isrt_len]; simp; omega) (by rw [isrt_len]; simp; omega) (by rw [isrt_len]; simp; omega) hS1 (isrt_srt' h.tp _) hQ1 hQ2 hb
          rw [List.append_nil, List.append_nil, ← e1, ← isrt_mrg h.tp, ← hmm, ← List.drop_drop, List.take_append_drop, hmm, ← hfin] at hm
          simp (maxSteps := 4000000) [List.getElem?_cons_zero, List.getElem?_cons_succ, -Prod.forall, hc, hm, hw3, hmn, w5]
          exact ⟨k2, by omega, by omega, rfl, rfl⟩
        · have e1 : blk c k2 (L.take a) ++ blk c k (L.drop a) = blk c k2 L := by rw [hfin, blk_small (L := L.drop a) (by simp; omega)]
          rw [e1]
          simp (maxSteps := 4000000) [List.getElem?_cons_zero, List.getElem?_cons_succ, -Prod.forall, hc, hw3, hmn, w5]
          exact ⟨k2, by omega, by omega, rfl, rfl⟩
    · rw [blk_small (by omega)]
      simp (maxSteps := 4000000) [List.getElem?_cons_zero, List.getElem?_cons_succ, -Prod.forall, hkn, Tryz.results137]
theorem sortStable_eqM {g : Nat} {c : (List UInt8 × List UInt8) → (List UInt8 × List UInt8) → Int} {Q : (List UInt8 × List UInt8) → Prop} (h : CmpOkM g c Q) (b : Nat) (σ : List (List AV)) (L : List (List UInt8 × List UInt8)) (n : Nat) (hL : ∀ x ∈ L, Q x) (hn : L.length = n) (hN : n ≤ 2 ^ 30) (hb : b < σ.length) :
    ev 124 [.ms 41 2 b 0 n, .fn g []] (σ.set b (rowE esM L)) = some (.tup [], σ.set b (rowE esM (isrt c L))) := by
  have h1 := stable_eqM h b σ L n hL hn hN hb
  refine EV_post rfl Tryz.func124 rfl (by simp [Tryz.ntmps124]) (by kernel_rfl) (by kernel_rfl) ?_
  simp (maxSteps := 4000000) [List.getElem?_cons_zero, List.getElem?_cons_succ, -Prod.forall, h1, Tryz.results124]
end Go.Proofs.Tryz.Ai
end
section
/- Sorting a row of modules: the program's and the document's. -/
namespace Go.Proofs.Tryz.Ai
open Go Go.AI Go.Proofs
set_option maxHeartbeats 2000000
set_option linter.unusedVariables false

def modA (m : List UInt8 × List UInt8) : AV := .agg [.str m.1, .str m.2]
def modC (a b : List UInt8 × List UInt8) : Int := orI (bytesC a.1 b.1) (cmpB a.2 b.2)
theorem TO.modC : TO modC := TO.bytes.prod TO.cmp
def modQ (m : List UInt8 × List UInt8) : Prop := m.1.length ≤ 2 ^ 39 ∧ m.2.length ≤ 2 ^ 39
theorem order_eqM (a b : List UInt8 × List UInt8) (ha : modQ a) (hb : modQ b) (σ) : ev 92 [.agg [.str a.1, .str a.2], .agg [.str b.1, .str b.2]] σ = some (.int .i64 (modC a b), σ) := by
  have h1 := Compare_eq a.1 b.1
  have h2 := cmpB_eq a.2 b.2 ha.2 hb.2
  have h3 := cmpOr_eq [bytesC a.1 b.1, cmpB a.2 b.2] (by simp)
  have h4 : modC a b = orL [bytesC a.1 b.1, cmpB a.2 b.2] := by
    unfold modC
    simp only [orL, List.foldr, orI]
    split
    · split
      · assumption
      · rfl
    · rfl
  simp only [List.map_cons, List.map_nil] at h3
  refine EV_post rfl Tryz.func92 rfl (by simp [Tryz.ntmps92]) (by kernel_rfl) (by kernel_rfl) ?_
  simp (maxSteps := 4000000) [List.getElem?_cons_zero, List.getElem?_cons_succ, h1, h2, h3, h4, Tryz.results92]
theorem cmp_okM : CmpOkM 92 modC modQ := ⟨TO.modC.tp, by decide, fun x y hx hy σ => order_eqM x y hx hy σ⟩
theorem Less_eq (a b : List UInt8 × List UInt8) (ha : modQ a) (hb : modQ b) (σ) : ev 45 [.agg [.str a.1, .str a.2], .agg [.str b.1, .str b.2]] σ = some (.bool (decide (modC a b < 0)), σ) := by
  have h := order_eqM a b ha hb
  refine EV_post rfl Tryz.func45 rfl (by simp [Tryz.ntmps45]) (by kernel_rfl) (by kernel_rfl) ?_
  simp (maxSteps := 4000000) [List.getElem?_cons_zero, List.getElem?_cons_succ, h, Tryz.results45]
theorem rLess_eq (a b : List UInt8 × List UInt8) (ha : modQ a) (hb : modQ b) (σ) : ev 46 [.agg [.str a.1, .str a.2], .agg [.str b.1, .str b.2]] σ = some (.bool (decide (modC a b < 0)), σ) := by
  have h2 := rCompare_eq a.2 b.2 ha.2 hb.2
  have hl := bytesLess_eq a.1 b.1
  refine EV_post rfl Tryz.func46 rfl (by simp [Tryz.ntmps46]) (by kernel_rfl) (by kernel_rfl) ?_
  by_cases h : a.1 = b.1
  · have h0 : (a.1 == b.1) = true := by simpa using h
    have hm : modC a b = cmpB a.2 b.2 := by unfold modC; rw [h, TO.bytes.refl]; simp [orI]
    simp (maxSteps := 4000000) [List.getElem?_cons_zero, List.getElem?_cons_succ, h0, h, h2, hm, Tryz.results46]
  · have h0 : (a.1 == b.1) = false := by simpa using h
    have hm : modC a b = bytesC a.1 b.1 := by unfold modC orI; rw [if_neg (fun e => h (TO.bytes.eq _ _ e))]
    simp (maxSteps := 4000000) [List.getElem?_cons_zero, List.getElem?_cons_succ, h0, h, hl, hm, Tryz.results46]
theorem row_esM (l : List (List UInt8 × List UInt8)) : rowE esM l = flat (l.map modA) := by
  induction l with
  | nil => rfl
  | cons a l ih => unfold rowE at *; rw [List.flatMap_cons, ih, List.map_cons, flat_cons]; rfl
theorem insertion_nilM (g : Nat) (σ : List (List AV)) : ev 155 [.sl .sh [], .int .i64 0, .int .i64 0, .fn g []] σ = some (.tup [], σ) := by
  refine EV_post rfl Tryz.func155 rfl (by simp [Tryz.ntmps155]) (by kernel_rfl) (by kernel_rfl) ?_
  have w : IntKind.i64.wrap 1 = 1 := by decide
  simp (maxSteps := 4000000) [List.getElem?_cons_zero, List.getElem?_cons_succ, w]
  refine Post_loop (I := fun q : Nat => ⟨[(0, .sl .sh []), (1, .int .i64 0), (2, .int .i64 0), (3, .fn g []), (8, .int .i64 1)], [], σ⟩) (Pr := fun q => True) (μ := fun q => q) (a := 0) (by simp) (by simp) ?_
  intro q hq
  simp (maxSteps := 4000000) [List.getElem?_cons_zero, List.getElem?_cons_succ, ]
theorem stable_nilM (g : Nat) (σ : List (List AV)) : ev 137 [.sl .sh [], .int .i64 0, .fn g []] σ = some (.tup [], σ) := by
  have hI := insertion_nilM g
  refine EV_post rfl Tryz.func137 rfl (by simp [Tryz.ntmps137]) (by kernel_rfl) (by kernel_rfl) ?_
  simp (maxSteps := 4000000) [List.getElem?_cons_zero, List.getElem?_cons_succ, ]
  refine Post_loop (I := fun q : Nat => ⟨[(0, .sl .sh []), (1, .int .i64 0), (2, .fn g []), (6, .int .i64 20), (7, .int .i64 0), (8, .int .i64 20)], [], σ⟩) (Pr := fun q => True) (μ := fun q => q) (a := 0) (by simp) (by simp) ?_
  intro q hq
  simp (maxSteps := 4000000) [List.getElem?_cons_zero, List.getElem?_cons_succ, hI]
  refine Post_loop (I := fun q : Nat => ⟨[(0, .sl .sh []), (1, .int .i64 0), (2, .fn g []), (6, .int .i64 20)], [], σ⟩) (Pr := fun q => True) (μ := fun q => q) (a := 0) (by simp) (by simp) ?_
  intro q hq
  simp (maxSteps := 4000000) [List.getElem?_cons_zero, List.getElem?_cons_succ, Tryz.results137]
theorem sortStable_nilM (g : Nat) (σ : List (List AV)) : ev 124 [.sl .sh [], .fn g []] σ = some (.tup [], σ) := by
  have h1 := stable_nilM g
  refine EV_post rfl Tryz.func124 rfl (by simp [Tryz.ntmps124]) (by kernel_rfl) (by kernel_rfl) ?_
  simp (maxSteps := 4000000) [List.getElem?_cons_zero, List.getElem?_cons_succ, h1, Tryz.results124]
theorem els_rowM (l : List (List UInt8 × List UInt8)) : els2 true 2 2 (flat (l.map modA)) 0 l.length = some (l.map modA) := by
  rw [els2_agg, if_pos (by rw [← row_esM, es_lenM]; omega)]
  congr 1
  apply List.ext_getElem?
  intro i
  by_cases hi : i < l.length
  · obtain ⟨x, hx⟩ : ∃ x, l[i]? = some x := ⟨_, List.getElem?_eq_getElem hi⟩
    have := es_getM hx
    rw [List.getElem?_map, List.getElem?_range hi, List.getElem?_map, hx, ← row_esM]
    simp only [Option.map_some, Nat.zero_add, this]; rfl
  · rw [List.getElem?_eq_none (by simpa using Nat.le_of_not_lt hi), List.getElem?_eq_none (by simpa using Nat.le_of_not_lt hi)]
@[simp] theorem allCells_modA {l : List (List UInt8 × List UInt8)} : allCells 2 (l.map modA) ↔ True := ⟨fun _ => trivial, fun _ z hz => by
  obtain ⟨w, _, rfl⟩ := List.mem_map.1 hz
  simp [modA, AV.cells]⟩
theorem sorted_eqM {g : Nat} {c : List UInt8 × List UInt8 → List UInt8 × List UInt8 → Int} {Q : List UInt8 × List UInt8 → Prop} (h : CmpOkM g c Q) (l : List (List UInt8 × List UInt8)) (hl : l.length ≤ 2 ^ 30) (hQ : ∀ x ∈ l, Q x) (σ : List (List AV)) :
    ev 91 [.sl .sh (l.map modA), .fn g []] σ = some (.sl (.ex 41 2) ((isrt c l).map modA), σ) := by
  cases l with
  | nil =>
    have hS := sortStable_nilM g
    refine EV_post rfl Tryz.func91 rfl (by simp [Tryz.ntmps91]) (by kernel_rfl) (by kernel_rfl) ?_
    simp (maxSteps := 4000000) [List.getElem?_cons_zero, List.getElem?_cons_succ, hS, isrt, Tryz.results91]
  | cons x r =>
    have hS := sortStable_eqM h σ.length (σ ++ [[]]) (x :: r) (r.length + 1) hQ (by simp) (by simpa using hl) (by simp)
    rw [row_esM, row_esM] at hS
    obtain ⟨L, hL⟩ : ∃ L, isrt c (x :: r) = L := ⟨_, rfl⟩
    have hLl : L.length = r.length + 1 := by rw [← hL, isrt_len]; simp
    have hE := els_rowM L
    rw [hL] at hS ⊢
    rw [hLl] at hE
    have hlow : lowL σ.length (L.map modA) := by simp [modA]
    have hall : allCells 2 (r.map modA) := by
      intro z hz
      obtain ⟨w, _, rfl⟩ := List.mem_map.1 hz
      simp [modA, AV.cells]
    simp [modA] at hS hl
    refine EV_post rfl Tryz.func91 rfl (by simp [Tryz.ntmps91]) (by kernel_rfl) (by kernel_rfl) ?_
    simp (maxSteps := 4000000) [List.getElem?_cons_zero, List.getElem?_cons_succ, hS, hE, hlow, hall, modA, Tryz.results91]
    repeat (rw [need_of]; rotate_left; (· (try unfold most); omega); simp (maxSteps := 4000000) [List.getElem?_cons_zero, List.getElem?_cons_succ, hS, hE, hlow, hall, modA, Tryz.results91])
theorem SortMods_eq (l : List (List UInt8 × List UInt8)) (hl : l.length ≤ 2 ^ 30) (hQ : ∀ x ∈ l, modQ x) (σ : List (List AV)) : ev 42 [.sl .sh (l.map modA)] σ = some (.sl (.ex 41 2) ((isrt modC l).map modA), σ) := by
  have h := sorted_eqM cmp_okM l hl hQ
  refine EV_post rfl Tryz.func42 rfl (by simp [Tryz.ntmps42]) (by kernel_rfl) (by kernel_rfl) ?_
  simp (maxSteps := 4000000) [List.getElem?_cons_zero, List.getElem?_cons_succ, h, Tryz.results42]
theorem SameMods_eq (a b : List (List UInt8 × List UInt8)) (ha : a.length ≤ 2 ^ 40) (σ : List (List AV)) : ev 43 [.sl .sh (a.map modA), .sl .sh (b.map modA)] σ = some (.bool (decide (a = b)), σ) := by
  refine EV_post rfl Tryz.func43 rfl (by simp [Tryz.ntmps43]) (by kernel_rfl) (by kernel_rfl) ?_
  by_cases hl : a.length = b.length
  · simp (maxSteps := 4000000) [List.getElem?_cons_zero, List.getElem?_cons_succ, hl]
    refine Post_loop (I := fun i : Nat => ⟨[(0, .sl .sh (a.map modA)), (1, .sl .sh (b.map modA)), (5, .int .i64 i)], [], σ⟩) (Pr := fun i => i ≤ a.length ∧ a.take i = b.take i) (μ := fun i => a.length - i) (a := 0) (by simp) (by simp) ?_
    rintro i ⟨i1, i2⟩
    by_cases hc : i < a.length
    · obtain ⟨x, hx⟩ : ∃ z, a[i]? = some z := ⟨_, List.getElem?_eq_getElem hc⟩
      obtain ⟨y, hy⟩ : ∃ z, b[i]? = some z := ⟨_, List.getElem?_eq_getElem (by omega)⟩
      have hcb : i < b.length := by omega
      have w1 : IntKind.i64.wrap ((i : Int) + 1) = (i : Int) + 1 := wrap64 (by omega)
      have hx' : (a.map modA)[i]? = some (.agg [.str x.1, .str x.2]) := by rw [List.getElem?_map, hx]; rfl
      have hy' : (b.map modA)[i]? = some (.agg [.str y.1, .str y.2]) := by rw [List.getElem?_map, hy]; rfl
      by_cases hxy : x = y
      · subst hxy
        simp (maxSteps := 4000000) [List.getElem?_cons_zero, List.getElem?_cons_succ, -getElem?_pos, -List.getElem?_map, hcb, hl, hx', hy', w1]
        exact ⟨i + 1, ⟨by omega, by rw [List.take_add_one, List.take_add_one, hx, hy, i2]⟩, by omega, by simp⟩
      · have hab : ¬ a = b := by
          intro e
          subst e
          rw [hx] at hy
          exact hxy (by simpa using hy)
        have hxy' : (x.1 == y.1 && x.2 == y.2) = false := by
          rw [Bool.eq_false_iff]; intro e
          simp at e
          exact hxy (Prod.ext e.1 e.2)
        simp (maxSteps := 4000000) [List.getElem?_cons_zero, List.getElem?_cons_succ, -getElem?_pos, -List.getElem?_map, hcb, hl, hx', hy', hxy', hab, Tryz.results43]
    · have hab : a = b := by
        rw [List.take_of_length_le (by omega), List.take_of_length_le (by omega)] at i2
        exact i2
      have hcb : ¬ i < b.length := by omega
      subst hab
      simp (maxSteps := 4000000) [List.getElem?_cons_zero, List.getElem?_cons_succ, hcb, Tryz.results43]
  · have hab : ¬ a = b := fun e => hl (by rw [e])
    simp (maxSteps := 4000000) [List.getElem?_cons_zero, List.getElem?_cons_succ, hl, hab, Tryz.results43]

theorem rSortMods_eq (l : List (List UInt8 × List UInt8)) (hl : l.length ≤ 2 ^ 30) (hQ : ∀ x ∈ l, modQ x) (σ : List (List AV)) : ev 44 [.sl .sh (l.map modA)] σ = some (.sl (.ex 41 2) ((isrt modC l).map modA), σ) := by
  have tp := TO.modC.tp
  refine EV_post rfl Tryz.func44 rfl (by simp [Tryz.ntmps44]) (by kernel_rfl) (by kernel_rfl) ?_
  simp (maxSteps := 4000000) [List.getElem?_cons_zero, List.getElem?_cons_succ, -Prod.forall]
  refine Post_loop (I := fun k : Nat => ⟨[(0, .sl .sh (l.map modA)), (3, .sl (.ex 41 2) ((isrt modC (l.take k)).map modA)), (4, .int .i64 k)], [], σ⟩) (Pr := fun k => k ≤ l.length) (μ := fun k => l.length - k) (a := 0) (by simp [isrt]) (by simp) ?_
  intro k hk
  by_cases hc : k < l.length
  · obtain ⟨x, hx⟩ : ∃ z, l[k]? = some z := ⟨_, List.getElem?_eq_getElem hc⟩
    have hQx := hQ x (List.mem_of_getElem? hx)
    have hS : isrt modC (l.take (k + 1)) = mrg modC (isrt modC (l.take k)) [x] := by
      rw [List.take_add_one, hx]; exact isrt_snoc tp _ _
    have hSs := isrt_srt' tp (l.take k)
    have hSl : (isrt modC (l.take k)).length = k := by rw [isrt_len]; simp; omega
    have hSQ : ∀ y ∈ isrt modC (l.take k), modQ y := fun y hy => hQ y (List.mem_of_mem_take (isrt_mem.1 hy))
    generalize isrt modC (l.take k) = S at *
    simp (maxSteps := 4000000) [List.getElem?_cons_zero, List.getElem?_cons_succ, -Prod.forall, hc, hSl]
    refine Post_loop (I := fun u : Nat => ⟨[(0, .sl .sh (l.map modA)), (3, .sl (.ex 41 2) (S.map modA)), (4, .int .i64 k), (5, .int .i64 u)], [], σ⟩) (Pr := fun u => u ≤ k ∧ ∀ v ∈ S.drop u, modC x v < 0) (μ := fun u => u) (a := k) (by simp) (by simp [← hSl]) ?_
    rintro u ⟨hu, hV⟩
    have hfin : (∀ y, (S.take u).getLast? = some y → ¬ modC x y < 0) → isrt modC (l.take (k + 1)) = S.take u ++ x :: S.drop u := by
      intro hq
      rw [hS]
      have : S = S.take u ++ S.drop u := (List.take_append_drop u S).symm
      conv => lhs; rw [this]
      refine mrg_one (fun y hy => ?_) hV
      obtain ⟨i, hi, hy⟩ := mem_take_get hy
      obtain ⟨z, hz⟩ : ∃ z, S[u - 1]? = some z := ⟨_, List.getElem?_eq_getElem (by omega)⟩
      have h1 := hq z (by
        obtain ⟨w, rfl⟩ : ∃ w, u = w + 1 := ⟨u - 1, by omega⟩
        rw [List.take_add_one, show S[w]? = some z from hz]; simp)
      exact tp.nlt.2 (tp.trans _ _ _ (srt_get tp hSs (by omega) hy hz) (tp.nlt.1 h1))
    have w1 : IntKind.i64.wrap ((k : Int) + 1) = (k : Int) + 1 := wrap64 (by omega)
    have ku : u ≤ S.length := by omega
    cases u with
    | zero =>
      have hf := hfin (by simp)
      simp (maxSteps := 4000000) [List.getElem?_cons_zero, List.getElem?_cons_succ, -Prod.forall, -regionA_true]
      refine Post_bndD [] _ (by rfl) (by simp (maxSteps := 4000000) [List.getElem?_cons_zero, List.getElem?_cons_succ, ]; exact rfl) ?_
      repeat (first
        | refine PostD_go _ (by rfl) (by rfl) (by simp (maxSteps := 4000000) [List.getElem?_cons_zero, List.getElem?_cons_succ, ]; exact rfl) (by first | exact .inl rfl | exact .inr rfl) (by rfl) ?_
        | refine PostD_no (by rfl) (by rfl) ?_)
      refine PostD_end ?_
      simp (maxSteps := 4000000) [List.getElem?_cons_zero, List.getElem?_cons_succ, -getElem?_pos, hx, w1, modA]
      repeat (rw [need_of]; rotate_left; (· (try unfold most); omega); simp (maxSteps := 4000000) [List.getElem?_cons_zero, List.getElem?_cons_succ, -getElem?_pos, hx, w1, modA])
      exact ⟨k + 1, by omega, by omega, by rw [hf]; simp [modA], by simp⟩
    | succ w =>
      obtain ⟨y, hy⟩ : ∃ y, S[w]? = some y := ⟨_, List.getElem?_eq_getElem (by omega)⟩
      have hQy := hSQ y (List.mem_of_getElem? hy)
      have hcmp := rLess_eq x y hQx hQy
      have hfl := tp.flip y x
      have w2 : IntKind.i64.wrap ((w : Int) + 1 - 1) = (w : Int) := by rw [wrap64 (by omega)]; omega
      have p4 : w < S.length := by omega
      have p5 : (0 : Int) < (w : Int) + 1 := by omega
      obtain ⟨v, hv⟩ : ∃ v, w + 1 = v := ⟨_, rfl⟩
      have hv2 : (w : Int) + 1 = (v : Int) := by omega
      have w3 : IntKind.i64.wrap ((v : Int) - 1) = (w : Int) := by rw [wrap64 (by omega)]; omega
      have p6 : 0 < v := by omega
      have kv : v ≤ S.length := by omega
      simp (maxSteps := 4000000) [List.getElem?_cons_zero, List.getElem?_cons_succ, -Prod.forall, -regionA_true, hv2]
      refine Post_bndD [] _ (by rfl) (by simp (maxSteps := 4000000) [List.getElem?_cons_zero, List.getElem?_cons_succ, ]; exact rfl) ?_
      repeat (first
        | refine PostD_go _ (by rfl) (by rfl) (by simp (maxSteps := 4000000) [List.getElem?_cons_zero, List.getElem?_cons_succ, -getElem?_pos, hc, hx, hy, w3, p4, p6, hcmp, modA]; exact rfl) (by first | exact .inl rfl | exact .inr rfl) (by rfl) ?_
        | refine PostD_no (by rfl) (by rfl) ?_)
      refine PostD_end ?_
      by_cases hlt : modC x y < 0
      · have hV2 : ∀ v ∈ S.drop w, modC x v < 0 := by
          have hd : S.drop w = y :: S.drop (w + 1) := by rw [List.drop_eq_getElem_cons (by omega)]; congr 1; exact (List.getElem?_eq_some_iff.1 hy).2
          rw [hd]
          intro v hv
          rcases List.mem_cons.1 hv with rfl | hv
          · exact hlt
          · exact hV v hv
        have hgt : modC x y < 0 := hlt
        simp (maxSteps := 4000000) [List.getElem?_cons_zero, List.getElem?_cons_succ, -Prod.forall, hgt, w3]
        exact ⟨by omega, hV2⟩
      · have hf := hfin (fun z hz => by
          have : (S.take (w + 1)).getLast? = some y := by rw [List.take_add_one, hy]; simp
          rw [this] at hz; injection hz with hz; subst hz; exact hlt)
        have hgt : ¬ modC x y < 0 := hlt
        rw [hv] at hf
        have hT : List.take v (S.map modA) = (S.take v).map modA := (List.map_take ..).symm
        have hD : List.drop v (S.map modA) = (S.drop v).map modA := (List.map_drop ..).symm
        have lT : (S.take v).length = v := by simp; omega
        have lD : (S.drop v).length = S.length - v := by simp
        clear hfin hV hlt hS
        generalize S.take v = A at *
        generalize S.drop v = B at *
        simp (maxSteps := 4000000) [List.getElem?_cons_zero, List.getElem?_cons_succ, -getElem?_pos, hgt, hx, w1, kv, hT, hD, modA]
        repeat (rw [need_of]; rotate_left; (· (try unfold most); omega); simp (maxSteps := 4000000) [List.getElem?_cons_zero, List.getElem?_cons_succ, -getElem?_pos, hgt, hx, w1, kv, hT, hD, modA])
        exact ⟨k + 1, by omega, by omega, by rw [hf]; simp [modA], by simp⟩
  · have hk' : l.take k = l := List.take_of_length_le (by omega)
    rw [hk']
    simp (maxSteps := 4000000) [List.getElem?_cons_zero, List.getElem?_cons_succ, -Prod.forall, hc, Tryz.results44]
end Go.Proofs.Tryz.Ai
end
section
/- ModLists. -/
namespace Go.Proofs.Tryz.Ai
open Go Go.AI Go.Proofs
set_option maxHeartbeats 2000000
set_option linter.unusedVariables false

def texts (l : List (List UInt8 × List UInt8)) : List (List UInt8) := l.map fun m => m.1 ++ m.2
theorem lists_eq (l : List (List UInt8 × List UInt8)) (hl : l.length ≤ 1048576 ∧ ∀ m ∈ l, m.1.length ≤ 1048576 ∧ m.2.length ≤ 1048576) (σ) : ev 11 [.sl .sh (l.map modA)] σ = some (.bool true, σ) := by
  obtain ⟨hl1, hl2⟩ := hl
  refine EV_post rfl Tryz.func11 rfl (by simp [Tryz.ntmps11]) (by kernel_rfl) (by kernel_rfl) ?_
  simp (maxSteps := 4000000) [List.getElem?_cons_zero, List.getElem?_cons_succ, first_eq]
  by_cases hlen : l.length ≤ 60
  · refine Post_loop (I := fun i : Nat => ⟨[(0, .sl .sh (l.map modA)), (3, .bool true), (4, .sl (.ex 9 1) ((texts (l.take i)).map .str)), (5, .int .i64 i)], [], σ⟩) (Pr := fun i => i ≤ l.length ∧ i ≤ 61) (μ := fun i => l.length - i) (a := 0) (by simp [texts]) (by simp) ?_
    rintro i ⟨hi, hi61⟩
    have h60 : i ≤ 60 := by omega
    by_cases hc : i < l.length
    · obtain ⟨x, hx⟩ : ∃ z, l[i]? = some z := ⟨_, List.getElem?_eq_getElem hc⟩
      have hx' : (l.map modA)[i]? = some (.agg [.str x.1, .str x.2]) := by rw [List.getElem?_map, hx]; rfl
      have hxl := hl2 x (List.mem_of_getElem? hx)
      have w1 : IntKind.i64.wrap ((i : Int) + 1) = (i : Int) + 1 := wrap64 (by omega)
      have ht : texts (l.take (i + 1)) = texts (l.take i) ++ [x.1 ++ x.2] := by rw [List.take_add_one, hx]; simp [texts]
      obtain ⟨A, hA⟩ : ∃ A, texts (l.take i) = A := ⟨_, rfl⟩
      have hAl : A.length ≤ 61 := by rw [← hA]; simp [texts]; omega
      have n1 : x.1.length + x.2.length ≤ most := by unfold most; omega
      have n2 : A.length + 1 ≤ most := by unfold most; omega
      rw [hA] at ht ⊢
      simp (maxSteps := 4000000) [List.getElem?_cons_zero, List.getElem?_cons_succ, -regionA_true, hc, h60]
      refine Post_bndD [] _ (by rfl) (by simp (maxSteps := 4000000) [List.getElem?_cons_zero, List.getElem?_cons_succ, ]; exact rfl) ?_
      repeat (first
        | refine PostD_go _ (by rfl) (by rfl) (by simp (maxSteps := 4000000) [List.getElem?_cons_zero, List.getElem?_cons_succ, -getElem?_pos, -List.getElem?_map, hc, hx', need_of n1, need_of n2]; exact rfl) (by first | exact .inl rfl | exact .inr rfl) (by rfl) ?_
        | refine PostD_no (by rfl) (by rfl) ?_)
      refine PostD_end ?_
      simp (maxSteps := 4000000) [List.getElem?_cons_zero, List.getElem?_cons_succ, w1]
      exact ⟨i + 1, ⟨by omega, by omega⟩, by omega, by rw [ht]; simp, by simp⟩
    · have ht : l.take i = l := List.take_of_length_le (by omega)
      have hF := few_eq (texts l)
      have hAl : (texts l).length = l.length := by simp [texts]
      obtain ⟨fw, hfw⟩ : ∃ w, (decide ((texts l).length ≤ 60) && (texts l).all fun s => decide (s.length ≤ 2000)) = w := ⟨_, rfl⟩
      rw [hfw] at hF
      rw [ht]
      cases fw with
      | false => 
        generalize (texts l) = A at *
        simp (maxSteps := 4000000) [List.getElem?_cons_zero, List.getElem?_cons_succ, hc, hF, Tryz.results11]
      | true =>
        have hQ : ∀ m ∈ l, modQ m := fun m hm => by have := hl2 m hm; exact ⟨by omega, by omega⟩
        have hS := SortMods_eq l (by omega) hQ
        have hR := rSortMods_eq l (by omega) hQ
        have hSl : (isrt modC l).length = l.length := isrt_len l
        have hST := SameMods_eq (isrt modC l) (isrt modC l) (by omega)
        have hSL := SameMods_eq l l (by omega)
        generalize isrt modC l = S at *
        have hST' : ∀ σ, ev 43 [.sl .sh (S.map modA), .sl .sh (S.map modA)] σ = some (.bool true, σ) := fun σ => by rw [hST]; simp
        have hSL' : ∀ σ, ev 43 [.sl .sh (l.map modA), .sl .sh (l.map modA)] σ = some (.bool true, σ) := fun σ => by rw [hSL]; simp
        clear hfw ht
        generalize (texts l) = A at *
        simp (maxSteps := 4000000) [List.getElem?_cons_zero, List.getElem?_cons_succ, hc, hF, hS, hR, hST', hSL']
        repeat (rw [need_of]; rotate_left; (· (try unfold most); omega); simp (maxSteps := 4000000) [List.getElem?_cons_zero, List.getElem?_cons_succ, hc, hF, hS, hR, hST', hSL'])
        refine Post_loop (I := fun k : Nat => ⟨[(0, .sl .sh (l.map modA)), (9, .bool true), (10, .int .i64 ((k + 1 : Nat) : Int))], [], σ⟩) (Pr := fun k => k ≤ l.length) (μ := fun k => l.length - k) (a := 0) (by simp) (by simp) ?_
        intro k hk
        by_cases hkc : k + 1 < l.length
        · obtain ⟨x, hx⟩ : ∃ z, l[k]? = some z := ⟨_, List.getElem?_eq_getElem (by omega)⟩
          obtain ⟨y, hy⟩ : ∃ z, l[k + 1]? = some z := ⟨_, List.getElem?_eq_getElem hkc⟩
          have hx' : (l.map modA)[k]? = some (.agg [.str x.1, .str x.2]) := by rw [List.getElem?_map, hx]; rfl
          have hy' : (l.map modA)[k + 1]? = some (.agg [.str y.1, .str y.2]) := by rw [List.getElem?_map, hy]; rfl
          have h1 := Less_eq x y (hQ x (List.mem_of_getElem? hx)) (hQ y (List.mem_of_getElem? hy))
          have h2 := rLess_eq x y (hQ x (List.mem_of_getElem? hx)) (hQ y (List.mem_of_getElem? hy))
          generalize decide (modC x y < 0) = dd at h1 h2
          obtain ⟨v, hv⟩ : ∃ v, k + 1 = v := ⟨_, rfl⟩
          rw [hv] at hkc hy' ⊢
          have w1 : IntKind.i64.wrap ((v : Int) + 1) = (v : Int) + 1 := wrap64 (by omega)
          have w2 : IntKind.i64.wrap ((v : Int) - 1) = (k : Int) := by rw [wrap64 (by omega)]; omega
          have kl : k < l.length := by omega
          simp (maxSteps := 4000000) [List.getElem?_cons_zero, List.getElem?_cons_succ, -regionA_true, hkc]
          refine Post_bndD [] _ (by rfl) (by simp (maxSteps := 4000000) [List.getElem?_cons_zero, List.getElem?_cons_succ, ]; exact rfl) ?_
          repeat (first
            | refine PostD_go _ (by rfl) (by rfl) (by simp (maxSteps := 4000000) [List.getElem?_cons_zero, List.getElem?_cons_succ, -getElem?_pos, -List.getElem?_map, hkc, kl, w2, hx', hy', h1, h2]; exact rfl) (by first | exact .inl rfl | exact .inr rfl) (by rfl) ?_
            | refine PostD_no (by rfl) (by rfl) ?_)
          refine PostD_end ?_
          simp (maxSteps := 4000000) [List.getElem?_cons_zero, List.getElem?_cons_succ, w1]
          exact ⟨by omega, by omega⟩
        · obtain ⟨v, hv⟩ : ∃ v, k + 1 = v := ⟨_, rfl⟩
          rw [hv] at hkc ⊢
          simp (maxSteps := 4000000) [List.getElem?_cons_zero, List.getElem?_cons_succ, hkc, Tryz.results11]
  · refine Post_loop (I := fun i : Nat => ⟨[(0, .sl .sh (l.map modA)), (3, .bool true), (4, .sl (.ex 9 1) ((texts (l.take i)).map .str)), (5, .int .i64 i)], [], σ⟩) (Pr := fun i => i ≤ l.length ∧ i ≤ 61) (μ := fun i => l.length - i) (a := 0) (by simp [texts]) (by simp) ?_
    rintro i ⟨hi, hi61⟩
    by_cases h60 : i ≤ 60
    · have hc : i < l.length := by omega
      obtain ⟨x, hx⟩ : ∃ z, l[i]? = some z := ⟨_, List.getElem?_eq_getElem hc⟩
      have hx' : (l.map modA)[i]? = some (.agg [.str x.1, .str x.2]) := by rw [List.getElem?_map, hx]; rfl
      have hxl := hl2 x (List.mem_of_getElem? hx)
      have w1 : IntKind.i64.wrap ((i : Int) + 1) = (i : Int) + 1 := wrap64 (by omega)
      have ht : texts (l.take (i + 1)) = texts (l.take i) ++ [x.1 ++ x.2] := by rw [List.take_add_one, hx]; simp [texts]
      obtain ⟨A, hA⟩ : ∃ A, texts (l.take i) = A := ⟨_, rfl⟩
      have hAl : A.length ≤ 61 := by rw [← hA]; simp [texts]; omega
      have n1 : x.1.length + x.2.length ≤ most := by unfold most; omega
      have n2 : A.length + 1 ≤ most := by unfold most; omega
      rw [hA] at ht ⊢
      simp (maxSteps := 4000000) [List.getElem?_cons_zero, List.getElem?_cons_succ, -regionA_true, hc, h60]
      refine Post_bndD [] _ (by rfl) (by simp (maxSteps := 4000000) [List.getElem?_cons_zero, List.getElem?_cons_succ, ]; exact rfl) ?_
      repeat (first
        | refine PostD_go _ (by rfl) (by rfl) (by simp (maxSteps := 4000000) [List.getElem?_cons_zero, List.getElem?_cons_succ, -getElem?_pos, -List.getElem?_map, hc, hx', need_of n1, need_of n2]; exact rfl) (by first | exact .inl rfl | exact .inr rfl) (by rfl) ?_
        | refine PostD_no (by rfl) (by rfl) ?_)
      refine PostD_end ?_
      simp (maxSteps := 4000000) [List.getElem?_cons_zero, List.getElem?_cons_succ, w1]
      exact ⟨i + 1, ⟨by omega, by omega⟩, by omega, by rw [ht]; simp, by simp⟩
    · have hF := few_eq (texts (l.take i))
      have hAl : (texts (l.take i)).length = 61 := by simp [texts]; omega
      generalize (texts (l.take i)) = A at *
      have hF' : ∀ σ, ev 14 [.sl .sh (A.map .str)] σ = some (.bool false, σ) := fun σ => by rw [hF]; simp [hAl]
      by_cases hc : i < l.length
      · simp (maxSteps := 4000000) [List.getElem?_cons_zero, List.getElem?_cons_succ, h60, hc, hF', Tryz.results11]
      · simp (maxSteps := 4000000) [List.getElem?_cons_zero, List.getElem?_cons_succ, h60, hc, hF', Tryz.results11]
end Go.Proofs.Tryz.Ai
end
section
/- A statement's arguments, as the evaluation holds them. No program is in sight. -/
namespace Go.AI
open Go.RowKit Go.ChangeShapes
set_option linter.unusedVariables false

theorem plain_addr {w : World} {a : Addr} {v : Value} (h : w.cell? a = some v) : ∃ b off, a = ⟨b, off, none⟩ := by
  obtain ⟨b, off, s⟩ := a
  cases s with
  | none => exact ⟨b, off, rfl⟩
  | some s =>
    simp only [World.cell?] at h
    split at h <;> simp at h

section
variable {H : Type} {enc : TypeId × Value → H} {P : Program} {W : World} {t e : TypeId} {α : Type}

/-- what is read at a type is a value of α, held as R says; Q: what of the datum -/
structure Reads (enc : TypeId × Value → H) (P : Program) (W : World) (t : TypeId) {α : Type} (R : α → AV) (Q : α → DataW H → Prop) : Prop where
  cells : ∀ a, (R a).cells.length = P.cellsOf t ∧ (∀ c ∈ (R a).cells, plain c = true)
  pos : 0 < P.cellsOf t
  rd : ∀ fuel cs x, DataW.trod enc P W 0 (fun _ => true) true fuel t cs = some x → ∃ a, Q a x.1 ∧ cs.length = P.cellsOf t ∧ ∀ j c, (R a).cells[j]? = some c → Rep W.heap.size gh0 W (cs.getD j undef) c

theorem one_cell {v : Value} {c : AV} (h : Rep W.heap.size gh0 W v c) : ∀ j c', [c][j]? = some c' → Rep W.heap.size gh0 W ([v].getD j undef) c' := by
  intro j c' e
  cases j with
  | zero => simp at e; subst e; exact h
  | succ j => simp at e

theorem Reads.int {k : IntKind} (ht : P.underlying t = some (.int k)) (hc : P.cellsOf t = 1) : Reads enc P W t (fun n : Int => AV.int k n) (fun n d => d = .lit (.int k n) ∧ (Lit.int k n).wf = true) := by
  refine ⟨fun a => ⟨by rw [hc]; rfl, fun c h => by simp [AV.cells] at h; subst h; rfl⟩, by omega, fun fuel cs x h => ?_⟩
  obtain ⟨n, rfl, rfl, hw⟩ := DataW.trod_int ht h
  exact ⟨n, ⟨rfl, hw⟩, by simp [hc], one_cell (.int k n)⟩
theorem Reads.u8 (ht : P.underlying t = some (.int .u8)) (hc : P.cellsOf t = 1) : Reads enc P W t AV.u8 (fun n d => d = .lit (.int .u8 n.toNat)) := by
  refine ⟨fun a => ⟨by rw [hc]; rfl, fun c h => by simp [AV.cells, AV.u8] at h; subst h; rfl⟩, by omega, fun fuel cs x h => ?_⟩
  obtain ⟨n, rfl, rfl, hw⟩ := DataW.trod_int ht h
  have hb := bounds_u8 hw
  obtain ⟨m, rfl⟩ := Int.eq_ofNat_of_zero_le hb.1
  have hm : (UInt8.ofNat m).toNat = m := by simp only [UInt8.toNat_ofNat']; omega
  exact ⟨UInt8.ofNat m, by rw [hm], by simp [hc], one_cell (by rw [AV.u8, hm]; exact .int _ _)⟩
theorem Reads.bool (ht : P.underlying t = some .bool) (hc : P.cellsOf t = 1) : Reads enc P W t AV.bool (fun b d => d = .lit (.bool b)) := by
  refine ⟨fun a => ⟨by rw [hc]; rfl, fun c h => by simp [AV.cells] at h; subst h; rfl⟩, by omega, fun fuel cs x h => ?_⟩
  cases fuel with
  | zero => simp [DataW.trod] at h
  | succ n =>
    unfold DataW.trod at h
    rw [ht] at h
    split at h
    all_goals first
      | (rename_i b _; injection h with h; subst h; exact ⟨b, rfl, by simp [hc], one_cell (.bool _)⟩)
      | (simp at *; done)
theorem Reads.str (ht : P.underlying t = some .string) (hc : P.cellsOf t = 1) : Reads enc P W t AV.str (fun s d => d = .lit (.string s) ∧ s.length ≤ maxLen) := by
  refine ⟨fun a => ⟨by rw [hc]; rfl, fun c h => by simp [AV.cells] at h; subst h; rfl⟩, by omega, fun fuel cs x h => ?_⟩
  obtain ⟨s, rfl, rfl, hw⟩ := DataW.trod_string ht h
  exact ⟨s.data.toList, ⟨rfl, by simpa using hw⟩, by simp [hc], one_cell (.str s)⟩

theorem cells_get {w : World} {a : Addr} {n : Nat} {cs : List Value} (h : w.cells? 0 a n = some cs) : cs.length = n ∧ ∀ j, j < n → w.cell? (a.add j) = some (cs.getD j undef) := by
  unfold World.cells? at h
  rw [if_pos (Nat.zero_le _)] at h
  have hl := mapM_some_length h
  refine ⟨by simpa using hl, fun j hj => ?_⟩
  have h1 := mapM_some_get h j j (by simp [hj])
  have hlt : j < cs.length := by rw [hl]; simpa using hj
  rw [h1, List.getElem?_eq_getElem hlt]
  simp [List.getD, List.getElem?_eq_getElem hlt]

theorem flat_at {α : Type} {R : α → AV} (l : List α) (i j : Nat) (c : AV) (h : ((l.map R)[i]?.bind fun e => e.cells[j]?) = some c) : ∃ a, l[i]? = some a ∧ (R a).cells[j]? = some c := by
  rw [List.getElem?_map] at h
  cases hx : l[i]? with
  | none => rw [hx] at h; cases h
  | some a => rw [hx] at h; exact ⟨a, rfl, h⟩
theorem choose_list {α : Type} {Q : Nat → α → Prop} (n : Nat) (h : ∀ i, i < n → ∃ z, Q i z) : ∃ l : List α, l.length = n ∧ ∀ (i : Nat) (z : α), l[i]? = some z → Q i z := by
  induction n with
  | zero => exact ⟨[], rfl, fun i z e => by simp at e⟩
  | succ n ih =>
    obtain ⟨l, hl, hq⟩ := ih fun i hi => h i (by omega)
    obtain ⟨z, hz⟩ := h n (by omega)
    refine ⟨l ++ [z], by simp [hl], fun i y e => ?_⟩
    rw [List.getElem?_append] at e
    split at e
    · exact hq i y e
    · rename_i hi
      have : i = n := by
        rcases Nat.lt_or_ge (i - l.length) 1 with q | q
        · omega
        · rw [List.getElem?_eq_none (by simpa using q)] at e; cases e
      subst this
      simp [hl] at e; subst e; exact hz

/-- a slice's datum, by its elements' -/
def slQ {α : Type} (Q : α → DataW H → Prop) (l : List α) (d : DataW H) : Prop :=
  (l = [] ∧ d = .nil) ∨ ∃ ds rest, d = .slice ds rest ∧ l.length = ds.length ∧ l.length ≤ maxLen ∧ ∀ (i : Nat) (a : α) (x : DataW H), l[i]? = some a → ds[i]? = some x → Q a x

theorem Reads.slice {R : α → AV} {Q : α → DataW H → Prop} (h : Reads enc P W e R Q) (ht : P.underlying t = some (.slice e)) (hc : P.cellsOf t = 1) : Reads enc P W t (fun l : List α => AV.sl .sh (l.map R)) (slQ Q) := by
  refine ⟨fun a => ⟨by rw [hc]; rfl, fun c q => by simp [AV.cells] at q; subst q; rfl⟩, by omega, fun fuel cs x hx => ?_⟩
  rcases Go.Deep.open_slice ht hx with ⟨rfl, rfl⟩ | ⟨a, len, cap, m, n, D, Pl, rfl, hb, hl, hm, hm2, rfl, hel⟩
  · exact ⟨[], .inl ⟨rfl, rfl⟩, by simp [hc], one_cell (.slnil _)⟩
  · simp only [if_true] at hm2
    subst hm2
    obtain ⟨l, hl2, hq⟩ := choose_list (Q := fun i (z : α) => Q z (D i) ∧ ∀ j, j < P.cellsOf e → ∃ v, W.cell? ((a.add (i * P.cellsOf e)).add j) = some v ∧ ∀ c, (R z).cells[j]? = some c → Rep W.heap.size gh0 W v c) len (by
      intro i hi
      obtain ⟨cs', h1, h2⟩ := hel i (by omega)
      obtain ⟨z, h3, h4, h5⟩ := h.rd _ _ _ h2
      obtain ⟨h6, h7⟩ := cells_get h1
      exact ⟨z, h3, fun j hj => ⟨_, h7 j hj, fun c hc => h5 j c hc⟩⟩)
    subst hl2
    refine ⟨l, .inr ⟨_, _, rfl, by simp, by omega, fun i z x h1 h2 => ?_⟩, by simp [hc], one_cell ?_⟩
    · have hi : i < l.length := (List.getElem?_eq_some_iff.1 h1).1
      rw [List.getElem?_map, List.getElem?_range hi] at h2
      simp at h2; subst h2
      exact (hq i z h1).1
    · by_cases h0 : l = []
      · subst h0; exact   .sl0 a m .sh (by simp) hm
      · have hpos := h.pos
        have hlen : 0 < l.length := List.length_pos_iff.2 h0
        obtain ⟨z0, hz0⟩ : ∃ z, l[0]? = some z := ⟨_, List.getElem?_eq_getElem hlen⟩
        obtain ⟨v0, hv0, _⟩ := (hq 0 z0 hz0).2 0 hpos
        have hadd : ∀ (a : Addr) (i : Nat) b off, a = ⟨b, off, none⟩ → a.add i = ⟨b, off + i, none⟩ := fun a i b off q => by subst q; unfold Addr.add; split <;> simp_all
        obtain ⟨b, off, rfl⟩ : ∃ b off, a = ⟨b, off, none⟩ := by
          obtain ⟨b, off, s⟩ := a
          cases s with
          | none => exact ⟨b, off, rfl⟩
          | some s =>
            obtain ⟨b', off', q⟩ := plain_addr hv0
            simp [Addr.add] at q
        have hrl : (l.map R).length = l.length := by simp
        rw [← hrl]
        rw [hadd _ _ b off rfl, hadd _ _ b _ rfl] at hv0
        have hblk : b < W.heap.size := World.block_lt_of_cell? W _ hv0
        have hall : ∀ k, k < l.length * P.cellsOf e → ∃ z v, l[k / P.cellsOf e]? = some z ∧ W.cell? ⟨b, off + k, none⟩ = some v ∧ ∀ c, (R z).cells[k % P.cellsOf e]? = some c → Rep W.heap.size gh0 W v c := by
          intro k hk
          have hki : k / P.cellsOf e < l.length := (Nat.div_lt_iff_lt_mul hpos).2 hk
          obtain ⟨z, hz⟩ : ∃ z, l[k / P.cellsOf e]? = some z := ⟨_, List.getElem?_eq_getElem hki⟩
          obtain ⟨v, hv, hr⟩ := (hq _ z hz).2 (k % P.cellsOf e) (Nat.mod_lt _ hpos)
          have : (Addr.add (Addr.add ⟨b, off, none⟩ (k / P.cellsOf e * P.cellsOf e)) (k % P.cellsOf e)) = ⟨b, off + k, none⟩ := by
            rw [hadd _ _ b off rfl, hadd _ _ b _ rfl]
            have := Nat.div_add_mod k (P.cellsOf e)
            rw [Nat.mul_comm] at this
            rw [Nat.add_assoc, this]
          rw [this] at hv
          exact ⟨z, v, hz, hv, hr⟩
        refine .sl b off m (P.cellsOf e) .sh (l.map R) (fun k => (W.cell? ⟨b, off + k, none⟩).getD undef) (by simp) hpos (by simpa using hl) hm ?_ ?_ ?_
        · intro x hx
          obtain ⟨z, _, rfl⟩ := List.mem_map.1 hx
          exact h.cells z
        · intro k hk
          obtain ⟨z, v, h1, h2, h3⟩ := hall k (by simpa using hk)
          exact ⟨by rw [h2]; rfl, .inl hblk⟩
        · intro i j c hc'
          obtain ⟨z, hz, hzc⟩ := flat_at l i j c hc'
          have hi : i < l.length := (List.getElem?_eq_some_iff.1 hz).1
          have hj : j < P.cellsOf e := by rw [← (h.cells z).1]; exact (List.getElem?_eq_some_iff.1 hzc).1
          obtain ⟨z', v, h1, h2, h3⟩ := hall (i * P.cellsOf e + j) (by
            have : (i + 1) * P.cellsOf e ≤ l.length * P.cellsOf e := Nat.mul_le_mul_right _ hi
            rw [Nat.add_mul] at this; omega)
          have e1 : (i * P.cellsOf e + j) / P.cellsOf e = i := by rw [Nat.mul_comm, Nat.mul_add_div hpos, Nat.div_eq_of_lt hj]; rfl
          have e2 : (i * P.cellsOf e + j) % P.cellsOf e = j := by rw [Nat.mul_comm, Nat.mul_add_mod, Nat.mod_eq_of_lt hj]
          rw [e1, hz] at h1; injection h1 with h1; subst h1
          rw [e2] at h3
          simp only [h2, Option.getD_some]
          exact h3 c hzc

def oneT (d : Option TypeDesc) : Bool := match d with
  | some (.int _) => true
  | some .string => true
  | some .bool => true
  | some (.slice _) => true
  | _ => false
theorem val_one {r : Reach} {b0 : Nat} {v : Value} (hk : oneT (P.underlying t) = true) (h : Value.okWide P W r b0 t v) : v.cells = #[v] := by
  unfold Value.okWide at h
  cases hd : P.underlying t with
  | none => rw [hd] at hk; cases hk
  | some d =>
    rw [hd] at hk h
    cases d <;> simp only [oneT, Bool.false_eq_true] at hk
    all_goals
      simp only at h
      unfold Cell.okWide at h
      rw [hd] at h
      try unfold Cell.ok at h
      try rw [hd] at h
      cases v <;> first | rfl | (simp at h)

theorem Reads.arg1 {R : α → AV} {Q : α → DataW H → Prop} (h : Reads enc P W t R Q) (hR : ∀ a, (R a).cells = [R a]) (hk : oneT (P.underlying t) = true) {r : Reach} {b0 : Nat} {v : Value} {d : DataW H} {p : List MemPlace}
    (hv : Value.okWide P W r b0 t v) (ht : DataW.Trod enc P W 0 (fun _ => true) true t v d p) : ∃ a, Q a d ∧ Rep W.heap.size gh0 W v (R a) ∧ pers (R a) = true ∧ quiet (R a) = true := by
  obtain ⟨fuel, hf⟩ := ht
  rw [val_one hk hv] at hf
  obtain ⟨a, h1, h2, h3⟩ := h.rd _ _ _ hf
  have h4 := (h.cells a).2 (R a) (by rw [hR]; simp)
  simp only [plain, Bool.and_eq_true] at h4
  refine ⟨a, h1, by have := h3 0 (R a) (by rw [hR]; rfl); simpa using this, ?_, h4.2⟩
  have h5 := h4.1
  cases hq : R a <;> rw [hq] at h5 <;> first | rfl | simp [cell1] at h5
theorem Reads.argS {R : α → AV} {Q : α → DataW H → Prop} (h : Reads enc P W t R Q) (hR : ∀ a, ∃ cs, R a = .agg cs) {fs : Array Field} (hk : P.underlying t = some (.struct fs)) {r : Reach} {b0 : Nat} {v : Value} {d : DataW H} {p : List MemPlace}
    (hv : Value.okWide P W r b0 t v) (ht : DataW.Trod enc P W 0 (fun _ => true) true t v d p) : ∃ a, Q a d ∧ Rep W.heap.size gh0 W v (R a) ∧ pers (R a) = true ∧ quiet (R a) = true := by
  obtain ⟨fuel, hf⟩ := ht
  unfold Value.okWide at hv
  rw [hk] at hv
  obtain ⟨vs, rfl, _, _⟩ := hv
  obtain ⟨a, h1, h2, h3⟩ := h.rd _ _ _ hf
  obtain ⟨cs, hcs⟩ := hR a
  have h4 := h.cells a
  rw [hcs] at h4 h3
  simp only [Value.cells, AV.cells] at h2 h3 h4
  refine ⟨a, h1, ?_⟩
  rw [hcs]
  refine ⟨.agg vs cs (by rw [h4.1, ← h2]; simp) h4.2 fun j c hc => ?_, rfl, rfl⟩
  have := h3 j c hc
  simpa [Array.getD_eq_getD_getElem?, List.getD] using this
/-- behind the call the arguments read as they did -/
theorem trodAll_keep (hl : laidOutB P = true) {W' : World} (hb : Below W.heap.size W W') : ∀ {ts : List TypeId} {vs : List Value} {ds : List (DataW H)} {ps : List MemPlace}, (∀ t ∈ ts, P.readableRec t = true ∧ t < P.types.size) →
    DataW.TrodAll enc P W 0 (fun _ => true) true ts vs ds ps → (∀ x ∈ ps, x.block < W.heap.size) → DataW.TrodAll enc P W' 0 (fun b => decide (b < W.heap.size)) true ts vs ds ps
  | [], [], [], ps, _, h, _ => h
  | t :: ts, [], [], ps, _, h, _ => by simp [DataW.TrodAll] at h
  | [], v :: vs, [], ps, _, h, _ => by simp [DataW.TrodAll] at h
  | [], [], d :: ds, ps, _, h, _ => by simp [DataW.TrodAll] at h
  | t :: ts, v :: vs, [], ps, _, h, _ => by simp [DataW.TrodAll] at h
  | t :: ts, [], d :: ds, ps, _, h, _ => by simp [DataW.TrodAll] at h
  | [], v :: vs, d :: ds, ps, _, h, _ => by simp [DataW.TrodAll] at h
  | t :: ts, v :: vs, d :: ds, ps, ht, h, hp => by
    obtain ⟨p, q, h1, h2, rfl⟩ := h
    refine ⟨p, q, Below.trod hl (ht t (by simp)).1 (ht t (by simp)).2 h1 hb fun x hx => hp x (List.mem_append_left _ hx), ?_, rfl⟩
    exact trodAll_keep hl hb (fun t h => ht t (List.mem_cons_of_mem _ h)) h2 fun x hx => hp x (List.mem_append_right _ hx)
theorem laidVars_mem {w : World} : ∀ {laid : List (String × DataW Unit)} {ps : List MemPlace} {n : String} {d : DataW Unit}, DataW.LaidVars P w laid ps → (n, d) ∈ laid →
    ∃ g t cs fuel p, P.globalNamed n = some g ∧ (P.globals[g]?).map (·.type) = some t ∧ w.var? P n = some cs ∧ DataW.trod (fun _ => ()) P w 0 (fun _ => true) false fuel t cs.toList = some (d, p)
  | [], _, _, _, _, hm => by cases hm
  | x :: r, ps, n, d, h, hm => by
    obtain ⟨g, t, cs, fuel, p, q, h1, h2, h3, h4, h5, _⟩ := h
    rcases List.mem_cons.1 hm with e | hm
    · subst e; exact ⟨g, t, cs, fuel, p, h1, h2, h3, h4⟩
    · exact laidVars_mem h5 hm
theorem tabIs_of_mem {name : String} {k : IntKind} {zs : List Int} {laid : List (String × DataW Unit)} {g : Nat} {n : Nat} (hm : (name, Lib.tabData k zs) ∈ laid)
    (hg : P.globalNamed name = some g) (hty : (P.globals[g]?).map (·.type) = some t) (ht : P.underlying t = some (.array n e)) (he : P.underlying e = some (.int k)) (hce : P.cellsOf e = 1) (hct : P.cellsOf t = n)
    (h : laidMet P laid W) : Lib.TabIs P W name k zs := by
  obtain ⟨ps, hl, _⟩ := h
  obtain ⟨g', t', cs, fuel, p, hg', ht', hvar, hd⟩ := laidVars_mem hl hm
  obtain rfl := Option.some.inj (hg.symm.trans hg')
  obtain rfl := Option.some.inj (hty.symm.trans ht')
  unfold Lib.TabIs
  rw [hvar, ← Lib.cells_of_tab ht he hce hct hd]
end
end Go.AI
end
section
/- A statement's arguments, as the evaluation holds them: structs. No program is in sight. -/
namespace Go.AI
open Go.RowKit Go.ChangeShapes Go.Deep Go.Joins
set_option linter.unusedVariables false
section
variable {H : Type} {enc : TypeId × Value → H} {P : Program} {W : World} {t e : TypeId}

theorem cells_sub {W : World} {cs : List Value} {off n : Nat} {l : List AV} (h : ∀ (j : Nat) (c : AV), l[j]? = some c → Rep W.heap.size gh0 W (((cs.drop off).take n).getD j undef) c) (hl : l.length ≤ n) :
    ∀ (j : Nat) (c : AV), l[j]? = some c → Rep W.heap.size gh0 W (cs.getD (off + j) undef) c := by
  intro j c hc
  have := h j c hc
  have hj : j < n := Nat.lt_of_lt_of_le (List.getElem?_eq_some_iff.1 hc).1 hl
  simpa [List.getD, List.getElem?_take, hj, List.getElem?_drop] using this
def st2R {α β : Type} (R0 : α → AV) (R1 : β → AV) (x : α × β) : AV := .agg ((R0 x.1).cells ++ (R1 x.2).cells)
def st2Q {α β : Type} (Q0 : α → DataW H → Prop) (Q1 : β → DataW H → Prop) (x : α × β) (d : DataW H) : Prop := ∃ d0 d1, d = .agg [d0, d1] ∧ Q0 x.1 d0 ∧ Q1 x.2 d1
theorem Reads.struct2 {α β : Type} {R0 : α → AV} {Q0 : α → DataW H → Prop} {R1 : β → AV} {Q1 : β → DataW H → Prop} {f0 f1 : Field} (h0 : Reads enc P W f0.type R0 Q0) (h1 : Reads enc P W f1.type R1 Q1)
    (ht : P.underlying t = some (.struct #[f0, f1])) (o0 : f0.offset = 0) (o1 : f1.offset = P.cellsOf f0.type) (hc : P.cellsOf t = P.cellsOf f0.type + P.cellsOf f1.type) :
    Reads enc P W t (st2R R0 R1) (st2Q Q0 Q1) := by
  refine ⟨fun x => ⟨?_, ?_⟩, by have := h0.pos; omega, fun fuel cs x hx => ?_⟩
  · show ((R0 x.1).cells ++ (R1 x.2).cells).length = P.cellsOf t
    simp only [List.length_append]
    rw [(h0.cells x.1).1, (h1.cells x.2).1, hc]
  · intro c hq
    replace hq : c ∈ (R0 x.1).cells ++ (R1 x.2).cells := hq
    simp only [List.mem_append] at hq
    rcases hq with hq | hq
    · exact (h0.cells x.1).2 c hq
    · exact (h1.cells x.2).2 c hq
  · obtain ⟨y0, y1, n, rfl, hl, t0, t1⟩ := trod_struct2 ht hx
    obtain ⟨a0, q0, l0, r0⟩ := h0.rd _ _ _ t0
    obtain ⟨a1, q1, l1, r1⟩ := h1.rd _ _ _ t1
    have s0 := cells_sub r0 (Nat.le_of_eq (h0.cells a0).1)
    have s1 := cells_sub r1 (Nat.le_of_eq (h1.cells a1).1)
    refine ⟨(a0, a1), ⟨_, _, rfl, q0, q1⟩, hl, fun j c hj => ?_⟩
    replace hj : ((R0 a0).cells ++ ((R1 a1).cells))[j]? = some c := by simpa [st2R, AV.cells] using hj
    rw [List.getElem?_append] at hj
    split at hj
    · have := s0 _ c hj
      rw [o0] at this
      have e : 0 + (j) = j := by have := (h0.cells a0).1; have := (h1.cells a1).1; omega
      rwa [e] at this
    · rename_i hn0
      have := s1 _ c hj
      rw [o1] at this
      have e : (P.cellsOf f0.type) + (j - (R0 a0).cells.length) = j := by have := (h0.cells a0).1; have := (h1.cells a1).1; omega
      rwa [e] at this
def st3R {α β γ : Type} (R0 : α → AV) (R1 : β → AV) (R2 : γ → AV) (x : α × β × γ) : AV := .agg ((R0 x.1).cells ++ (R1 x.2.1).cells ++ (R2 x.2.2).cells)
def st3Q {α β γ : Type} (Q0 : α → DataW H → Prop) (Q1 : β → DataW H → Prop) (Q2 : γ → DataW H → Prop) (x : α × β × γ) (d : DataW H) : Prop := ∃ d0 d1 d2, d = .agg [d0, d1, d2] ∧ Q0 x.1 d0 ∧ Q1 x.2.1 d1 ∧ Q2 x.2.2 d2
theorem Reads.struct3 {α β γ : Type} {R0 : α → AV} {Q0 : α → DataW H → Prop} {R1 : β → AV} {Q1 : β → DataW H → Prop} {R2 : γ → AV} {Q2 : γ → DataW H → Prop} {f0 f1 f2 : Field} (h0 : Reads enc P W f0.type R0 Q0) (h1 : Reads enc P W f1.type R1 Q1) (h2 : Reads enc P W f2.type R2 Q2)
    (ht : P.underlying t = some (.struct #[f0, f1, f2])) (o0 : f0.offset = 0) (o1 : f1.offset = P.cellsOf f0.type) (o2 : f2.offset = P.cellsOf f0.type + P.cellsOf f1.type) (hc : P.cellsOf t = P.cellsOf f0.type + P.cellsOf f1.type + P.cellsOf f2.type) :
    Reads enc P W t (st3R R0 R1 R2) (st3Q Q0 Q1 Q2) := by
  refine ⟨fun x => ⟨?_, ?_⟩, by have := h0.pos; omega, fun fuel cs x hx => ?_⟩
  · show ((R0 x.1).cells ++ (R1 x.2.1).cells ++ (R2 x.2.2).cells).length = P.cellsOf t
    simp only [List.length_append]
    rw [(h0.cells x.1).1, (h1.cells x.2.1).1, (h2.cells x.2.2).1, hc]
  · intro c hq
    replace hq : c ∈ (R0 x.1).cells ++ (R1 x.2.1).cells ++ (R2 x.2.2).cells := hq
    simp only [List.mem_append] at hq
    rcases hq with (hq | hq) | hq
    · exact (h0.cells x.1).2 c hq
    · exact (h1.cells x.2.1).2 c hq
    · exact (h2.cells x.2.2).2 c hq
  · obtain ⟨y0, y1, y2, n, rfl, hl, t0, t1, t2⟩ := trod_struct3 ht hx
    obtain ⟨a0, q0, l0, r0⟩ := h0.rd _ _ _ t0
    obtain ⟨a1, q1, l1, r1⟩ := h1.rd _ _ _ t1
    obtain ⟨a2, q2, l2, r2⟩ := h2.rd _ _ _ t2
    have s0 := cells_sub r0 (Nat.le_of_eq (h0.cells a0).1)
    have s1 := cells_sub r1 (Nat.le_of_eq (h1.cells a1).1)
    have s2 := cells_sub r2 (Nat.le_of_eq (h2.cells a2).1)
    refine ⟨(a0, a1, a2), ⟨_, _, _, rfl, q0, q1, q2⟩, hl, fun j c hj => ?_⟩
    replace hj : ((R0 a0).cells ++ ((R1 a1).cells ++ ((R2 a2).cells)))[j]? = some c := by simpa [st3R, AV.cells] using hj
    rw [List.getElem?_append] at hj
    split at hj
    · have := s0 _ c hj
      rw [o0] at this
      have e : 0 + (j) = j := by have := (h0.cells a0).1; have := (h1.cells a1).1; have := (h2.cells a2).1; omega
      rwa [e] at this
    · rename_i hn0
      rw [List.getElem?_append] at hj
      split at hj
      · have := s1 _ c hj
        rw [o1] at this
        have e : (P.cellsOf f0.type) + (j - (R0 a0).cells.length) = j := by have := (h0.cells a0).1; have := (h1.cells a1).1; have := (h2.cells a2).1; omega
        rwa [e] at this
      · rename_i hn1
        have := s2 _ c hj
        rw [o2] at this
        have e : (P.cellsOf f0.type + P.cellsOf f1.type) + (j - (R0 a0).cells.length - (R1 a1).cells.length) = j := by have := (h0.cells a0).1; have := (h1.cells a1).1; have := (h2.cells a2).1; omega
        rwa [e] at this
def st4R {α β γ δ : Type} (R0 : α → AV) (R1 : β → AV) (R2 : γ → AV) (R3 : δ → AV) (x : α × β × γ × δ) : AV := .agg ((R0 x.1).cells ++ (R1 x.2.1).cells ++ (R2 x.2.2.1).cells ++ (R3 x.2.2.2).cells)
def st4Q {α β γ δ : Type} (Q0 : α → DataW H → Prop) (Q1 : β → DataW H → Prop) (Q2 : γ → DataW H → Prop) (Q3 : δ → DataW H → Prop) (x : α × β × γ × δ) (d : DataW H) : Prop := ∃ d0 d1 d2 d3, d = .agg [d0, d1, d2, d3] ∧ Q0 x.1 d0 ∧ Q1 x.2.1 d1 ∧ Q2 x.2.2.1 d2 ∧ Q3 x.2.2.2 d3
theorem Reads.struct4 {α β γ δ : Type} {R0 : α → AV} {Q0 : α → DataW H → Prop} {R1 : β → AV} {Q1 : β → DataW H → Prop} {R2 : γ → AV} {Q2 : γ → DataW H → Prop} {R3 : δ → AV} {Q3 : δ → DataW H → Prop} {f0 f1 f2 f3 : Field} (h0 : Reads enc P W f0.type R0 Q0) (h1 : Reads enc P W f1.type R1 Q1) (h2 : Reads enc P W f2.type R2 Q2) (h3 : Reads enc P W f3.type R3 Q3)
    (ht : P.underlying t = some (.struct #[f0, f1, f2, f3])) (o0 : f0.offset = 0) (o1 : f1.offset = P.cellsOf f0.type) (o2 : f2.offset = P.cellsOf f0.type + P.cellsOf f1.type) (o3 : f3.offset = P.cellsOf f0.type + P.cellsOf f1.type + P.cellsOf f2.type) (hc : P.cellsOf t = P.cellsOf f0.type + P.cellsOf f1.type + P.cellsOf f2.type + P.cellsOf f3.type) :
    Reads enc P W t (st4R R0 R1 R2 R3) (st4Q Q0 Q1 Q2 Q3) := by
  refine ⟨fun x => ⟨?_, ?_⟩, by have := h0.pos; omega, fun fuel cs x hx => ?_⟩
  · show ((R0 x.1).cells ++ (R1 x.2.1).cells ++ (R2 x.2.2.1).cells ++ (R3 x.2.2.2).cells).length = P.cellsOf t
    simp only [List.length_append]
    rw [(h0.cells x.1).1, (h1.cells x.2.1).1, (h2.cells x.2.2.1).1, (h3.cells x.2.2.2).1, hc]
  · intro c hq
    replace hq : c ∈ (R0 x.1).cells ++ (R1 x.2.1).cells ++ (R2 x.2.2.1).cells ++ (R3 x.2.2.2).cells := hq
    simp only [List.mem_append] at hq
    rcases hq with ((hq | hq) | hq) | hq
    · exact (h0.cells x.1).2 c hq
    · exact (h1.cells x.2.1).2 c hq
    · exact (h2.cells x.2.2.1).2 c hq
    · exact (h3.cells x.2.2.2).2 c hq
  · obtain ⟨y0, y1, y2, y3, n, rfl, hl, t0, t1, t2, t3⟩ := trod_struct4 ht hx
    obtain ⟨a0, q0, l0, r0⟩ := h0.rd _ _ _ t0
    obtain ⟨a1, q1, l1, r1⟩ := h1.rd _ _ _ t1
    obtain ⟨a2, q2, l2, r2⟩ := h2.rd _ _ _ t2
    obtain ⟨a3, q3, l3, r3⟩ := h3.rd _ _ _ t3
    have s0 := cells_sub r0 (Nat.le_of_eq (h0.cells a0).1)
    have s1 := cells_sub r1 (Nat.le_of_eq (h1.cells a1).1)
    have s2 := cells_sub r2 (Nat.le_of_eq (h2.cells a2).1)
    have s3 := cells_sub r3 (Nat.le_of_eq (h3.cells a3).1)
    refine ⟨(a0, a1, a2, a3), ⟨_, _, _, _, rfl, q0, q1, q2, q3⟩, hl, fun j c hj => ?_⟩
    replace hj : ((R0 a0).cells ++ ((R1 a1).cells ++ ((R2 a2).cells ++ ((R3 a3).cells))))[j]? = some c := by simpa [st4R, AV.cells] using hj
    rw [List.getElem?_append] at hj
    split at hj
    · have := s0 _ c hj
      rw [o0] at this
      have e : 0 + (j) = j := by have := (h0.cells a0).1; have := (h1.cells a1).1; have := (h2.cells a2).1; have := (h3.cells a3).1; omega
      rwa [e] at this
    · rename_i hn0
      rw [List.getElem?_append] at hj
      split at hj
      · have := s1 _ c hj
        rw [o1] at this
        have e : (P.cellsOf f0.type) + (j - (R0 a0).cells.length) = j := by have := (h0.cells a0).1; have := (h1.cells a1).1; have := (h2.cells a2).1; have := (h3.cells a3).1; omega
        rwa [e] at this
      · rename_i hn1
        rw [List.getElem?_append] at hj
        split at hj
        · have := s2 _ c hj
          rw [o2] at this
          have e : (P.cellsOf f0.type + P.cellsOf f1.type) + (j - (R0 a0).cells.length - (R1 a1).cells.length) = j := by have := (h0.cells a0).1; have := (h1.cells a1).1; have := (h2.cells a2).1; have := (h3.cells a3).1; omega
          rwa [e] at this
        · rename_i hn2
          have := s3 _ c hj
          rw [o3] at this
          have e : (P.cellsOf f0.type + P.cellsOf f1.type + P.cellsOf f2.type) + (j - (R0 a0).cells.length - (R1 a1).cells.length - (R2 a2).cells.length) = j := by have := (h0.cells a0).1; have := (h1.cells a1).1; have := (h2.cells a2).1; have := (h3.cells a3).1; omega
          rwa [e] at this
end
end Go.AI
end
section
/- The bulk of what came in. -/
namespace Go.Proofs.YthdpejligoblbaaGreatDoor
open Go Go.AI
set_option linter.unusedVariables false
section
variable {H : Type}
theorem bulk_pos (d : DataW H) : 1 ≤ Rows.uptoBulk d := by
  cases d with
  | lit l => cases l <;> simp [Rows.uptoBulk]
  | _ => simp [Rows.uptoBulk]
theorem bulk_all (ds : List (DataW H)) : ds.length ≤ Rows.uptoBulkAll ds ∧ ∀ d ∈ ds, Rows.uptoBulk d ≤ Rows.uptoBulkAll ds := by
  induction ds with
  | nil => simp
  | cons d r ih =>
    have := bulk_pos d
    simp only [Rows.uptoBulkAll, List.length_cons, List.mem_cons]
    refine ⟨by omega, ?_⟩
    rintro x (rfl | hx)
    · omega
    · have := ih.2 x hx; omega
theorem small_str {s : List UInt8} {d : DataW H} (h : d = .lit (.string s) ∧ s.length ≤ maxLen) : s.length ≤ Rows.uptoBulk d := by
  rw [h.1]; simp [Rows.uptoBulk]
theorem slq_small {α : Type} {Q : α → DataW H → Prop} {f : α → Nat} {l : List α} {d : DataW H} (h : slQ Q l d) (hf : ∀ a x, Q a x → f a ≤ Rows.uptoBulk x) : l.length ≤ Rows.uptoBulk d ∧ ∀ a ∈ l, f a ≤ Rows.uptoBulk d := by
  rcases h with ⟨rfl, rfl⟩ | ⟨ds, rest, rfl, hl, _, hq⟩
  · simp
  · simp only [Rows.uptoBulk]
    have := bulk_all ds
    refine ⟨by omega, fun a ha => ?_⟩
    obtain ⟨i, hi⟩ := List.mem_iff_getElem?.1 ha
    have hlt := (List.getElem?_eq_some_iff.1 hi).1
    obtain ⟨x, hx⟩ : ∃ x, ds[i]? = some x := ⟨_, List.getElem?_eq_getElem (by omega)⟩
    have h1 := hf a x (hq i a x hi hx)
    have h2 := this.2 x (List.mem_of_getElem? hx)
    omega
theorem small_mod {m : List UInt8 × List UInt8} {d : DataW H} (h : st2Q (fun s d => d = .lit (.string s) ∧ s.length ≤ maxLen) (fun s d => d = .lit (.string s) ∧ s.length ≤ maxLen) m d) : m.1.length + m.2.length ≤ Rows.uptoBulk d := by
  obtain ⟨d0, d1, rfl, q0, q1⟩ := h
  have := small_str q0
  have := small_str q1
  simp only [Rows.uptoBulk, Rows.uptoBulkAll]; omega
end
end Go.Proofs.YthdpejligoblbaaGreatDoor
end
section
/- The frame of ModLists: from the evaluation to the given statement. -/
namespace Go.Proofs.YthdpejligoblbaaGreatDoor.modLists
open Go Go.AI Go.ChangeShapes Go.WideShapes Go.ChangeAt Go.RowKit
set_option linter.unusedVariables false

theorem own : ownKnob Tryz.prog.godebug = none := by kernel_rfl
theorem mixed : Tryz.prog.follows .mixedOrders = true := by kernel_rfl
theorem laidOut : laidOutB Tryz.prog = true := by kernel_rfl

theorem walk (a0 : List (List UInt8 × List UInt8)) (v0 : Value) (W : World) (hl : Go.Proofs.Tryz.Ai.Laid W) (r0 : Rep W.heap.size gh0 W v0 (.sl .sh (a0.map fun m => .agg [.str m.1, .str m.2])))
    (he : Go.Proofs.Tryz.Ai.ev 11 [.sl .sh (a0.map fun m => .agg [.str m.1, .str m.2])] [] = some (.bool true, [])) :
    Calls Tryz.prog 11 #[v0] W fun e w' => e = .returned (.bool true) ∧ Below W.heap.size W w' :=
  Go.AI.top (s' := []) mixed rfl (Go.Proofs.Tryz.Ai.T_ok hl) (by rfl)
    (fun j c h => by
      match j, h with
      | 0, h => simp at h; subst h; exact ⟨r0, rfl, rfl⟩
      | j + 1, h => simp at h)
    he

/-- the table of powers, as the row lays it -/
theorem laid_of {W : World} (hL : laidMet Tryz.prog Rows.modListsUptoRow.laid W) : Go.Proofs.Tryz.Ai.Laid W :=
  tabIs_of_mem (g := 3) (t := 138) (e := 121) (n := 20) (by
    have : ("internal/strconv.uint64pow10", Rows.laid_internal_strconv_uint64pow10) ∈ Rows.modListsUptoRow.laid := by simp [Rows.modListsUptoRow]
    have e : (Rows.laid_internal_strconv_uint64pow10 : DataW Unit) = Lib.tabData .u64 Lib.pow10Tab := by kernel_rfl
    rw [e] at this; exact this) (by kernel_rfl) (by kernel_rfl) Tryz.underlying138 Tryz.underlying121 (by kernel_rfl) (by kernel_rfl) hL

theorem readable : ∀ t ∈ Tryz.f11.params.toList, Tryz.prog.readableRec t = true ∧ t < Tryz.prog.types.size := by
  rw [Tryz.params11]
  intro t ht
  simp only [List.mem_cons, List.mem_nil_iff, or_false] at ht
  rcases ht with rfl <;> exact ⟨by kernel_rfl, of_decide_eq_true (by kernel_rfl)⟩

set_option maxRecDepth 100000 in
theorem contract (H : Type) (enc : TypeId × Value → H) (W : World) (base : Nat) (args : Array Value) (ds gs : List (DataW H)) (before : List MemPlace)
    (hval : ∀ (j : Nat) t v, Tryz.f11.params[j]? = some t → args[j]? = some v → Value.okWide Tryz.prog W .any base t v)
    (hW : DataW.Whole enc Tryz.prog Tryz.f11.params.toList Rows.modListsSpec.vars false W args.toList ds gs before) (hcond : ∀ k, (Rows.OpenSpec.upto Rows.modListsSpec).cond = some k → k H (ds ++ gs) = true) (hl : Go.Proofs.Tryz.Ai.Laid W) :
    Calls Tryz.prog 11 args W fun e W' => ∃ v, e = .returned v ∧ Rows.modListsSpec.post enc Tryz.prog Tryz.f11 false true false false W args v W' := by
  have hW' := hW
  obtain ⟨p, q, hA0, hV, rfl, hfz, hnd⟩ := hW
  have hA : DataW.TrodAll enc Tryz.prog W 0 (fun _ => true) true Tryz.f11.params.toList args.toList ds p := hA0
  have hAk := hA
  rw [Tryz.params11] at hA hval
  obtain ⟨v0, vs0, d0, ds0, p0, q0, hargs0, rfl, rfl, h0, r0⟩ := trodAll_cons hA
  obtain ⟨e1, e2, e3⟩ := trodAll_nil r0
  obtain rfl : args = #[v0] := by cases args; simp_all
  subst e2 e3
  obtain ⟨rfl, rfl⟩ := trodVars_none hV
  obtain ⟨a0, Q0, R0, _⟩ := (Reads.slice (Reads.struct2 (Reads.str Tryz.underlying9 (by kernel_rfl)) (Reads.str Tryz.underlying9 (by kernel_rfl)) Tryz.underlying41 (by rfl) (by kernel_rfl) (by kernel_rfl)) Tryz.underlying54 (by kernel_rfl)).arg1 (enc := enc) (W := W) (fun _ => rfl) (by kernel_rfl) (hval 0 54 v0 rfl rfl) h0
  have hb : Rows.uptoBulkAll ([d0] ++ []) ≤ 1048576 := of_decide_eq_true (hcond _ rfl)
  simp only [List.append_nil, Rows.uptoBulkAll] at hb
  have s0 : a0.length ≤ 1048576 ∧ ∀ m ∈ a0, m.1.length ≤ 1048576 ∧ m.2.length ≤ 1048576 := by have := slq_small (f := fun m => m.1.length + m.2.length) Q0 (fun a x h => small_mod h); exact ⟨by omega, fun s hs => by have := this.2 s hs; omega⟩
  have hlt : ∀ x ∈ (p0 : List MemPlace), True := fun _ _ => trivial
  refine (walk a0 v0 W hl R0 (by have := Go.Proofs.Tryz.Ai.lists_eq a0 s0 []; exact this)).mono fun e W' ⟨he, bel⟩ => ?_
  subst he
  exact ⟨_, rfl, _, _, _, [], _, [], hW', trodAll_mk1 (shut_bool Tryz.underlying4 _), trodAll_keep laidOut bel readable hAk (fun x hx => by simpa using hW'.lt x (by simpa using hx)), rfl, bel.frame _, fun h => by cases h⟩

noncomputable def laidWorld (os : Os) : World := World.laidAll Tryz.prog os Rows.modListsUptoRow.laid
theorem laid_met (os : Os) : laidMet Tryz.prog Rows.modListsUptoRow.laid ((laidWorld os).forCall (fun _ _ => 0) ⟨#[], #[.slice none 0 0], []⟩).memory :=
  laidMet_laidAll _ (by kernel_rfl) (by kernel_rfl)
theorem reads (os : Os) {H : Type} (enc : TypeId × Value → H) : ∃ places, DataW.whole enc Tryz.prog ((laidWorld os).forCall (fun _ _ => 0) ⟨#[], #[.slice none 0 0], []⟩).memory Tryz.f11.params.toList Rows.modListsSpec.vars false (#[.slice none 0 0] : Array Value).toList 8 = some ([.nil], [], places) :=
  ⟨[], by kernel_rfl⟩
theorem witness (os : Os) {H : Type} (enc : TypeId × Value → H) : ∃ (w : World) (tape : Tape) (i : Input), w.os = os ∧ (w.forCall tape i).Shaped Tryz.checked.prog ∧ i.vars = [] ∧ Input.okWide Tryz.checked.prog (w.forCall tape i) .any w.heap.size 11 i ∧
    (Rows.OpenSpec.upto Rows.modListsSpec).preRow enc Tryz.checked.prog Tryz.f11 Rows.modListsUptoRow.domain false Rows.modListsUptoRow.laid (w.forCall tape i).memory i.args ∧ ({} : Assume).holds Tryz.checked.prog (lone (Frame.enter Tryz.checked.prog 11 i.args .normal) [] (w.forCall tape i)) := by
  obtain ⟨places, hx⟩ := reads os enc
  have hok : Input.okWideB Tryz.checked.prog ((laidWorld os).forCall (fun _ _ => 0) ⟨#[], #[.slice none 0 0], []⟩) 11 ⟨#[], #[.slice none 0 0], []⟩ = true := by kernel_rfl
  exact ⟨laidWorld os, fun _ _ => 0, ⟨#[], #[.slice none 0 0], []⟩, World.laidAll_os _ _ _, World.shaped_of_ZipB (by kernel_rfl) (by kernel_rfl), (Input.okWide_of_okWideB (base := 0) hok).1, (Input.okWide_of_okWideB hok).2,
    OpenSpec.preRow_of_cond 8 hx (by kernel_rfl) (fun k hk => by have e : k = Rows.uptoSmall := (Option.some.inj (show some Rows.uptoSmall = some k from hk)).symm; rw [e]; simp [Rows.uptoSmall, Rows.uptoBulkAll, Rows.uptoBulk]) (by kernel_rfl) (laid_met os), by
    simp only [Assume.holds]
    exact ⟨by simp, by simp, fun _ => Modest.zero, by simp, by simp⟩⟩

set_option maxRecDepth 100000 in
theorem lifted (os : Os) (started : os.Started) (H : Type) (enc : TypeId × Value → H) (F : Stop.Interp) :
    ReturnsInHanded {} Tryz.checked os 11 .any ((Rows.OpenSpec.upto Rows.modListsSpec).preRow enc Tryz.prog Tryz.f11 Rows.modListsUptoRow.domain false Rows.modListsUptoRow.laid) (((Rows.OpenSpec.upto Rows.modListsSpec).at F).post enc Tryz.prog Tryz.f11 false true false false) := by
  refine returnsInHanded_of_row (C := Tryz.checked) (s := (Rows.OpenSpec.upto Rows.modListsSpec)) own started (by kernel_rfl) Tryz.func11 (witness os enc) ?_
  intro W base args ds gs before hval hW _ hcond _ hL _ _
  exact contract H enc W base args ds gs before hval hW hcond (laid_of (by rw [← MakeChecks.laidMetH_plain _ _ _ (by kernel_rfl)]; exact hL))

theorem said : Rows.ModListsUptoSaid :=
  OpenClaim.holds_of_cond 11 Tryz.f11 rfl rfl rfl rfl rfl rfl rfl ⟨rfl, rfl, rfl, rfl, rfl⟩ rfl rfl rfl rfl rfl (by kernel_rfl) Tryz.func11 (by kernel_rfl)
    (of_decide_eq_true (by kernel_rfl)) (by unfold Func.isWrapper; first | (rw [if_pos (by decide +kernel)]; kernel_rfl) | (rw [if_neg (by decide +kernel)]; exact ⟨rfl, rfl⟩))
    (fun os started H enc _ F => by rw [OpenClaim.pre_eq_preRow]; exact lifted os started H enc F)

theorem plain (f : FuncId) (fn : Func) (hf : Tryz.pinned.checked.prog.funcNamed "mews/mewslaw3.ModLists" = some f) (hfn : Tryz.pinned.checked.prog.funcs[f]? = some fn) :
    true = Tryz.pinned.checked.prog.looks [] ∧ ∀ (j : Nat) t, fn.params[j]? = some t → Tryz.pinned.checked.prog.wantsStandIn t = false := by
  obtain rfl : f = 11 := Option.some.inj ((show Tryz.prog.funcNamed "mews/mewslaw3.ModLists" = some 11 by kernel_rfl).symm.trans hf) |>.symm
  obtain rfl : fn = Tryz.f11 := (Option.some.inj (Tryz.func11.symm.trans hfn)).symm
  refine ⟨by kernel_rfl, fun j t ht => ?_⟩
  have hm : t ∈ Tryz.f11.params.toList := Array.mem_toList_iff.2 (Array.mem_of_getElem? ht)
  rw [Tryz.params11] at hm
  simp only [List.mem_cons, List.mem_nil_iff, or_false] at hm
  rcases hm with rfl
  · exact (show Tryz.prog.wantsStandIn 54 = false by kernel_rfl)

/-- the card -/
theorem card : Rows.ModListsUptoCardSaid :=
  Claim7.holds_tied_plain_at .later [] _ _ _ _ said (fun _ h => by cases h) (by kernel_rfl) (fun _ h => by cases h) modListsUpto_row_tie rfl ⟨rfl, rfl⟩ (by kernel_rfl) rfl plain (by kernel_rfl)
end Go.Proofs.YthdpejligoblbaaGreatDoor.modLists
end
