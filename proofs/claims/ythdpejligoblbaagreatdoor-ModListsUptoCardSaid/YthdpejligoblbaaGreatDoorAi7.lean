/- Part 7 of a proof: a Go function is evaluated on abstract values (texts So1 .. So7); no conditions beyond those of each theorem. -/
import Derived.Test.YthdpejligoblbaaGreatDoorAi6
set_option linter.all false
set_option linter.unusedVariables false
set_option linter.unusedSimpArgs false
set_option linter.unnecessarySimpa false
section
/- Sorting a row of texts: exchanges. -/
namespace Go.Proofs.Tryz.Ai
open Go Go.AI Go.Proofs
set_option maxHeartbeats 1000000
set_option linter.unusedVariables false

def es : List UInt8 → List AV := fun x => [.str x]
theorem es_get {D : List (List UInt8)} {i : Nat} {x : List UInt8} (h : D[i]? = some x) : (rowE es D)[i]? = some (.str x) := by
  have := (rowE_split (E := es) (sz := 1) (fun _ => rfl) h).2
  rw [Nat.mul_one] at this
  rw [← List.head?_drop, this]; rfl
theorem es_set {D : List (List UInt8)} {i : Nat} {y : List UInt8} (h : i < D.length) : (rowE es D).take i ++ .str y :: (rowE es D).drop (i + 1) = rowE es (D.set i y) := by
  have := rowE_set (E := es) (sz := 1) (fun _ => rfl) (y := y) h
  rwa [Nat.mul_one] at this
theorem es_len {D : List (List UInt8)} : (rowE es D).length = D.length := by rw [rowE_len (E := es) (sz := 1) (fun _ => rfl), Nat.mul_one]
theorem swapRange_eq (b : Nat) (σ : List (List AV)) (D : List (List UInt8)) (x y n g : Nat) (hN : D.length ≤ 2 ^ 30) (hx : x + n ≤ D.length) (hy : y + n ≤ D.length) (hb : b < σ.length) :
    ev 176 [.ms 9 1 b 0 D.length, .int .i64 x, .int .i64 y, .int .i64 n, .fn g []] (σ.set b (rowE es D)) = some (.tup [], σ.set b (rowE es (swapN D x y n))) := by
  refine EV_post rfl Tryz.func176 rfl (by simp [Tryz.ntmps176]) (by kernel_rfl) (by kernel_rfl) ?_
  simp (maxSteps := 4000000) [List.getElem?_cons_zero, List.getElem?_cons_succ, ]
  refine Post_loop (I := fun k : Nat => ⟨[(0, .ms 9 1 b 0 D.length), (1, .int .i64 x), (2, .int .i64 y), (3, .int .i64 n), (10, .int .i64 k)], [], σ.set b (rowE es (swapN D x y k))⟩) (Pr := fun k => k ≤ n) (μ := fun k => n - k) (a := 0) (by simp [swapN]) (by simp) ?_
  intro k hk
  by_cases hc : k < n
  · have hs : swapN D x y (k + 1) = swap2 (swapN D x y k) (x + k) (y + k) := rfl
    obtain ⟨Dk, hDk⟩ : ∃ Dk, swapN D x y k = Dk := ⟨_, rfl⟩
    have hl : Dk.length = D.length := by rw [← hDk]; simp
    rw [hDk] at hs
    obtain ⟨i, hi⟩ : ∃ i, x + k = i := ⟨_, rfl⟩
    obtain ⟨j, hj⟩ : ∃ i, y + k = i := ⟨_, rfl⟩
    rw [hi, hj] at hs
    obtain ⟨u, hu⟩ : ∃ u, Dk[i]? = some u := ⟨_, List.getElem?_eq_getElem (by omega)⟩
    obtain ⟨v, hv⟩ : ∃ u, Dk[j]? = some u := ⟨_, List.getElem?_eq_getElem (by omega)⟩
    rw [swap2_eq hu hv] at hs
    have w1 : IntKind.i64.wrap ((x : Int) + k) = (i : Int) := by rw [wrap64 (by omega)]; omega
    have w2 : IntKind.i64.wrap ((y : Int) + k) = (j : Int) := by rw [wrap64 (by omega)]; omega
    have w3 : IntKind.i64.wrap ((k : Int) + 1) = (k : Int) + 1 := wrap64 (by omega)
    have q1 : i < D.length := by omega
    have q2 : j < D.length := by omega
    have q1' : i + 1 ≤ (rowE es Dk).length := by rw [es_len]; omega
    have q2' : j + 1 ≤ (rowE es (Dk.set i v)).length := by rw [es_len]; simp; omega
    have g1 := es_get hu
    have g2 := es_get hv
    have s1 := es_set (D := Dk) (i := i) (y := v) (by omega)
    have s2 := es_set (D := Dk.set i v) (i := j) (y := u) (by simp; omega)
    simp (maxSteps := 4000000) [List.getElem?_cons_zero, List.getElem?_cons_succ, -getElem?_pos, hc, hDk, w1, w2, w3, q1, q2, q1', q2', g1, g2, s1, s2, hb]
    exact ⟨k + 1, by omega, by omega, by simp [hs]⟩
  · have : k = n := by omega
    subst this
    simp (maxSteps := 4000000) [List.getElem?_cons_zero, List.getElem?_cons_succ, hc, Tryz.results176]
end Go.Proofs.Tryz.Ai
end
section
/- Sorting a row of texts: insertion, rotation. -/
namespace Go.Proofs.Tryz.Ai
open Go Go.AI Go.Proofs
set_option maxHeartbeats 400000
set_option linter.unusedVariables false

/-- a function that compares -/
structure CmpOk (g : Nat) (c : List UInt8 → List UInt8 → Int) (Q : List UInt8 → Prop) : Prop where
  tp : TP c
  lt : g < 100000
  run : ∀ x y, Q x → Q y → ∀ σ, ev g [.str x, .str y] σ = some (.int .i64 (c x y), σ)
theorem insertion_eq {g : Nat} {c : List UInt8 → List UInt8 → Int} {Q : List UInt8 → Prop} (h : CmpOk g c Q) (b : Nat) (σ : List (List AV)) (pre L post : List (List UInt8)) (hL : ∀ x ∈ L, Q x) (N a e : Nat) (hN : N ≤ 2 ^ 30) (hNe : N = pre.length + (L.length + post.length)) (ha : a = pre.length) (he : e = a + L.length) (hb : b < σ.length) :
    ev 153 [.ms 9 1 b 0 N, .int .i64 a, .int .i64 e, .fn g []] (σ.set b (rowE es (pre ++ (L ++ post)))) = some (.tup [], σ.set b (rowE es (pre ++ (isrt c L ++ post)))) := by
  refine EV_post rfl Tryz.func153 rfl (by simp [Tryz.ntmps153]) (by kernel_rfl) (by kernel_rfl) ?_
  have w0 : IntKind.i64.wrap ((a : Int) + 1) = (a : Int) + 1 := wrap64 (by omega)
  have hgl := h.lt
  simp (maxSteps := 4000000) [List.getElem?_cons_zero, List.getElem?_cons_succ, w0]
  refine Post_loop (I := fun k : Nat => ⟨[(0, .ms 9 1 b 0 N), (1, .int .i64 a), (2, .int .i64 e), (3, .fn g []), (8, .int .i64 ((a + k : Nat) : Int))], [], σ.set b (rowE es (pre ++ (isrt c (L.take k) ++ (L.drop k ++ post))))⟩) (Pr := fun k => 1 ≤ k ∧ (k ≤ L.length ∨ L = [])) (μ := fun k => L.length - k) (a := 1)
    (by cases L with
        | nil => simp [isrt]
        | cons x L => simp [isrt, ins1]) (by cases L <;> simp) ?_
  rintro k ⟨hk1, hk2⟩
  by_cases hc : k < L.length
  · obtain ⟨x, hx⟩ : ∃ x, L[k]? = some x := ⟨_, List.getElem?_eq_getElem hc⟩
    have hQx := hL x (List.mem_of_getElem? hx)
    have hdrop : L.drop k = x :: L.drop (k + 1) := by rw [List.drop_eq_getElem_cons hc]; congr 1; exact (List.getElem?_eq_some_iff.1 hx).2
    have hS : isrt c (L.take (k + 1)) = mrg c (isrt c (L.take k)) [x] := by
      rw [List.take_add_one, hx]; exact isrt_snoc h.tp _ _
    have hSs := isrt_srt' h.tp (L.take k)
    have hSl : (isrt c (L.take k)).length = k := by rw [isrt_len]; simp; omega
    have hSQ : ∀ y ∈ isrt c (L.take k), Q y := fun y hy => hL y (List.mem_of_mem_take (isrt_mem.1 hy))
    rw [hdrop]
    obtain ⟨S, hSe⟩ : ∃ S, isrt c (L.take k) = S := ⟨_, rfl⟩
    rw [hSe] at hS hSs hSl hSQ ⊢
    obtain ⟨m, hm⟩ : ∃ m, a + k = m := ⟨_, rfl⟩
    have q0 : (m : Int) < e := by omega
    have q1 : m < e := by omega
    simp (maxSteps := 4000000) [List.getElem?_cons_zero, List.getElem?_cons_succ, hm, q1]
    refine Post_loop (I := fun u : Nat => ⟨[(0, .ms 9 1 b 0 N), (1, .int .i64 a), (2, .int .i64 e), (3, .fn g []), (8, .int .i64 m), (9, .int .i64 ((a + u : Nat) : Int))], [], σ.set b (rowE es (pre ++ (S.take u ++ x :: (S.drop u ++ (L.drop (k + 1) ++ post)))))⟩)
      (Pr := fun u => u ≤ k ∧ ∀ v ∈ S.drop u, c x v < 0) (μ := fun u => u) (a := k) (by simp [hm, ← hSl]; omega) (by simp [← hSl]) ?_
    rintro u ⟨hu, hV⟩
    have hfin : (∀ y, (S.take u).getLast? = some y → ¬ c x y < 0) → isrt c (L.take (k + 1)) = S.take u ++ x :: S.drop u := by
      intro hq
      rw [hS]
      have : S = S.take u ++ S.drop u := (List.take_append_drop u S).symm
      conv => lhs; rw [this]
      refine mrg_one (fun y hy => ?_) hV
      obtain ⟨z, hz⟩ : ∃ z, (S.take u).getLast? = some z := by
        cases hg : (S.take u).getLast? with
        | none => rw [List.getLast?_eq_none_iff] at hg; rw [hg] at hy; cases hy
        | some z => exact ⟨z, rfl⟩
      have h1 := hq z hz
      have hyz : y = z ∨ c y z ≤ 0 := by
        rw [this] at hSs
        have hs1 := (List.pairwise_append.1 hSs).1
        obtain ⟨ys, hys⟩ := List.getLast?_eq_some_iff.1 hz
        rw [hys] at hy hs1
        rcases List.mem_append.1 hy with hy | hy
        · exact .inr ((List.pairwise_append.1 hs1).2.2 y hy z (by simp))
        · simp at hy; exact .inl hy
      rcases hyz with rfl | hyz
      · exact h1
      · exact h.tp.nlt.2 (h.tp.trans _ _ _ hyz (h.tp.nlt.1 h1))
    obtain ⟨R, hR⟩ : ∃ R, L.drop (k + 1) ++ post = R := ⟨_, rfl⟩
    rw [hR]
    cases u with
    | zero =>
      have hf := hfin (by simp)
      have w2 : IntKind.i64.wrap ((m : Int) + 1) = (m : Int) + 1 := wrap64 (by omega)
      obtain ⟨D, hD⟩ : ∃ D, pre ++ (S.take 0 ++ x :: (S.drop 0 ++ R)) = D := ⟨_, rfl⟩
      rw [hD]
      simp (maxSteps := 4000000) [List.getElem?_cons_zero, List.getElem?_cons_succ, -regionA_true]
      refine Post_bndD [] _ (by rfl) (by simp (maxSteps := 4000000) [List.getElem?_cons_zero, List.getElem?_cons_succ, ]; exact rfl) ?_
      repeat (first
        | refine PostD_go _ (by rfl) (by rfl) (by simp (maxSteps := 4000000) [List.getElem?_cons_zero, List.getElem?_cons_succ, ]; exact rfl) (by first | exact .inl rfl | exact .inr rfl) (by rfl) ?_
        | refine PostD_no (by rfl) (by rfl) ?_)
      refine PostD_end ?_
      simp (maxSteps := 4000000) [List.getElem?_cons_zero, List.getElem?_cons_succ, w2]
      refine ⟨k + 1, ⟨by omega, by omega⟩, by omega, by omega, ?_⟩
      rw [hf, ← hD, ← hR]; simp
    | succ w =>
      obtain ⟨y, hy⟩ : ∃ y, S[w]? = some y := ⟨_, List.getElem?_eq_getElem (by omega)⟩
      have hQy := hSQ y (List.mem_of_getElem? hy)
      have hcmp := h.run x y hQx hQy
      have hB := bubL (pre := pre) (rest := R) (x := x) hy
      rw [← ha] at hB
      obtain ⟨D, hD⟩ : ∃ D, pre ++ (S.take (w + 1) ++ x :: (S.drop (w + 1) ++ R)) = D := ⟨_, rfl⟩
      rw [hD] at hB ⊢
      have hDl : D.length = N := by rw [← hD, ← hR]; simp; omega
      obtain ⟨i, hi⟩ : ∃ i, a + w = i := ⟨_, rfl⟩
      have hj : a + (w + 1) = i + 1 := by omega
      rw [hi, hj] at hB
      have w1 : IntKind.i64.wrap ((i : Int) + 1 - 1) = (i : Int) := by rw [wrap64 (by omega)]; omega
      have w2 : IntKind.i64.wrap ((m : Int) + 1) = (m : Int) + 1 := wrap64 (by omega)
      have p1 : (a : Int) < (i : Int) + 1 := by omega
      have p2 : ((i : Int) + 1).toNat = i + 1 := by omega
      have p3 : i + 1 < N := by omega
      have p4 : i < N := by omega
      have p5 : i + 1 ≤ (rowE es D).length := by rw [es_len]; omega
      have p6 : i + 1 + 1 ≤ (rowE es D).length := by rw [es_len]; omega
      have p7 : (0 : Int) ≤ (i : Int) + 1 := by omega
      have g1 := es_get hB.1
      have g2 := es_get hB.2.1
      have s1 := es_set (D := D) (i := i + 1) (y := y) (by omega)
      have s2 := es_set (D := D.set (i + 1) y) (i := i) (y := x) (by simp; omega)
      have p8 : i + 1 ≤ (rowE es (D.set (i + 1) y)).length := by rw [es_len]; simp; omega
      have hsw := hB.2.2
      rw [swap2_eq hB.2.1 hB.1] at hsw
      have hj2 : (a : Int) + ((w : Int) + 1) = ((i + 1 : Nat) : Int) := by omega
      have hi2 : (a : Int) + (w : Int) = (i : Int) := by omega
      obtain ⟨i1, hi1⟩ : ∃ z, i + 1 = z := ⟨_, rfl⟩
      have w1 : IntKind.i64.wrap ((i1 : Int) - 1) = (i : Int) := by rw [wrap64 (by omega)]; omega
      rw [hi1] at g2 s1 p3 p5 p6 hj2 hsw
      have s2 := es_set (D := D.set i1 y) (i := i) (y := x) (by simp; omega)
      have p8 : i + 1 ≤ (rowE es (D.set i1 y)).length := by rw [es_len]; simp; omega
      have p1 : a < i1 := by omega
      simp (maxSteps := 4000000) [List.getElem?_cons_zero, List.getElem?_cons_succ, -regionA_true, hj2]
      refine Post_bndD [] _ (by rfl) (by simp (maxSteps := 4000000) [List.getElem?_cons_zero, List.getElem?_cons_succ, ]; exact rfl) ?_
      repeat (first
        | refine PostD_go _ (by rfl) (by rfl) (by simp (maxSteps := 4000000) [List.getElem?_cons_zero, List.getElem?_cons_succ, -getElem?_pos, w1, p1, p3, p4, g1, g2, hgl, hcmp, hb]; exact rfl) (by first | exact .inl rfl | exact .inr rfl) (by rfl) ?_
        | refine PostD_no (by rfl) (by rfl) ?_)
      refine PostD_end ?_
      by_cases hlt : c x y < 0
      · have hV2 : ∀ v ∈ S.drop w, c x v < 0 := by
          have hd : S.drop w = y :: S.drop (w + 1) := by rw [List.drop_eq_getElem_cons (by omega)]; congr 1; exact (List.getElem?_eq_some_iff.1 hy).2
          rw [hd]
          intro v hv
          rcases List.mem_cons.1 hv with rfl | hv
          · exact hlt
          · exact hV v hv
        simp (maxSteps := 4000000) [List.getElem?_cons_zero, List.getElem?_cons_succ, -regionA_true, hlt]
        refine Post_bndD [] _ (by rfl) (by simp (maxSteps := 4000000) [List.getElem?_cons_zero, List.getElem?_cons_succ, ]; exact rfl) ?_
        repeat (first
          | refine PostD_go _ (by rfl) (by rfl) (by simp (maxSteps := 4000000) [List.getElem?_cons_zero, List.getElem?_cons_succ, -getElem?_pos, w1, p3, p4, p5, p6, p8, g1, g2, s1, s2, hb]; exact rfl) (by first | exact .inl rfl | exact .inr rfl) (by rfl) ?_
          | refine PostD_no (by rfl) (by rfl) ?_)
        refine PostD_end ?_
        simp (maxSteps := 4000000) [List.getElem?_cons_zero, List.getElem?_cons_succ, w1]
        exact ⟨w, ⟨by omega, hV2⟩, by omega, hi2.symm, by rw [hsw]⟩
      · have hf := hfin (fun z hz => by
          have : (S.take (w + 1)).getLast? = some y := by rw [List.take_add_one, hy]; simp
          rw [this] at hz; injection hz with hz; subst hz; exact hlt)
        simp (maxSteps := 4000000) [List.getElem?_cons_zero, List.getElem?_cons_succ, hlt, w2]
        refine ⟨k + 1, ⟨by omega, by omega⟩, by omega, by omega, ?_⟩
        rw [hf, ← hD, ← hR]; simp
  · have hk : L.take k = L ∧ L.drop k = [] := by
      rcases hk2 with h | h
      · exact ⟨List.take_of_length_le (by omega), List.drop_of_length_le (by omega)⟩
      · subst h; simp
    rw [hk.1, hk.2]
    obtain ⟨m, hm⟩ : ∃ m, a + k = m := ⟨_, rfl⟩
    have q1 : ¬ m < e := by omega
    have hlow := lowS_setset (σ := σ) (b := b) (X := rowE es (pre ++ (L ++ post))) (lowL_rowE (E := es) (n := σ.length) (fun x => ⟨trivial, trivial⟩) (pre ++ (isrt c L ++ ([] ++ post))))
    rw [hm]
    obtain ⟨X, hX⟩ : ∃ X, rowE es (pre ++ (isrt c L ++ ([] ++ post))) = X := ⟨_, rfl⟩
    rw [hX] at hlow ⊢
    simp (maxSteps := 4000000) [List.getElem?_cons_zero, List.getElem?_cons_succ, q1]
    rw [need_of hlow, ← hX]
    simp
end Go.Proofs.Tryz.Ai
end
section
/- Sorting a row of texts: rotation. -/
namespace Go.Proofs.Tryz.Ai
open Go Go.AI Go.Proofs
set_option maxHeartbeats 400000
set_option linter.unusedVariables false

theorem rotate_eq (b : Nat) (σ : List (List AV)) (pre U V post : List (List UInt8)) (g N a m e : Nat) (hN : N ≤ 2 ^ 30) (hNe : N = pre.length + (U.length + (V.length + post.length))) (ha : a = pre.length) (hm : m = a + U.length) (he : e = m + V.length) (hU : 0 < U.length) (hV : 0 < V.length) (hb : b < σ.length) :
    ev 169 [.ms 9 1 b 0 N, .int .i64 a, .int .i64 m, .int .i64 e, .fn g []] (σ.set b (rowE es (pre ++ (U ++ (V ++ post))))) = some (.tup [], σ.set b (rowE es (pre ++ (V ++ (U ++ post))))) := by
  refine EV_post rfl Tryz.func169 rfl (by simp [Tryz.ntmps169]) (by kernel_rfl) (by kernel_rfl) ?_
  have w0 : IntKind.i64.wrap ((m : Int) - a) = (U.length : Int) := by rw [wrap64 (by omega)]; omega
  have w1 : IntKind.i64.wrap ((e : Int) - m) = (V.length : Int) := by rw [wrap64 (by omega)]; omega
  simp (maxSteps := 4000000) [List.getElem?_cons_zero, List.getElem?_cons_succ, w0, w1]
  refine Post_loop (I := fun x : List (List UInt8) × List (List UInt8) × List (List UInt8) × List (List UInt8) => ⟨[(0, .ms 9 1 b 0 N), (2, .int .i64 m), (4, .fn g []), (10, .int .i64 x.2.1.length), (11, .int .i64 x.2.2.1.length)], [], σ.set b (rowE es (x.1 ++ (x.2.1 ++ (x.2.2.1 ++ x.2.2.2))))⟩)
    (Pr := fun x => x.1.length + x.2.1.length = m ∧ 0 < x.2.1.length ∧ 0 < x.2.2.1.length ∧ x.1 ++ (x.2.2.1 ++ (x.2.1 ++ x.2.2.2)) = pre ++ (V ++ (U ++ post))) (μ := fun x => x.2.1.length + x.2.2.1.length) (a := (pre, U, V, post)) (by simp) (by simp; omega) ?_
  rintro ⟨p, X, Y, q⟩ ⟨h1, h2, h3, h4⟩
  simp only at h1 h2 h3 h4 ⊢
  have hl := congrArg List.length h4
  simp only [List.length_append] at hl
  obtain ⟨i, hi⟩ : ∃ i, X.length = i := ⟨_, rfl⟩
  obtain ⟨j, hj⟩ : ∃ j, Y.length = j := ⟨_, rfl⟩
  have hp : p.length = m - i := by omega
  obtain ⟨z, hz⟩ : ∃ z, m - i = z := ⟨_, rfl⟩
  have w2 : IntKind.i64.wrap ((m : Int) - i) = (z : Int) := by rw [wrap64 (by omega)]; omega
  have hlen : (p ++ (X ++ (Y ++ q))).length = N := by simp; omega
  by_cases hij : i = j
  · have hs := swapRange_eq b σ (p ++ (X ++ ([] ++ (Y ++ q)))) z m i g (by simp; omega) (by simp; omega) (by simp; omega) hb
    have hsw := swapN_at (pre := p) (U := X) (mid := []) (V := Y) (post := q) (n := i) hi (by omega)
    have e1 : p.length + (i + ([] : List (List UInt8)).length) = m := by simp; omega
    rw [e1, hp, hz] at hsw
    rw [hsw] at hs
    simp only [List.nil_append] at hs
    rw [hlen, h4] at hs
    subst hij
    simp (maxSteps := 4000000) [List.getElem?_cons_zero, List.getElem?_cons_succ, hi, hj, w2, hs, Tryz.results169]
  · have hij' : ¬ (i : Int) = j := by omega
    by_cases hlt : j < i
    · have hX : X = X.take j ++ X.drop j := (List.take_append_drop j X).symm
      have hs := swapRange_eq b σ (p ++ (X.take j ++ (X.drop j ++ (Y ++ q)))) z m j g (by simp; omega) (by simp; omega) (by simp; omega) hb
      have hsw := swapN_at (pre := p) (U := X.take j) (mid := X.drop j) (V := Y) (post := q) (n := j) (by simp; omega) hj
      have e1 : p.length + (j + (X.drop j).length) = m := by simp; omega
      rw [e1, hp, hz] at hsw
      rw [hsw] at hs
      have e2 : X.take j ++ (X.drop j ++ (Y ++ q)) = X ++ (Y ++ q) := by rw [← List.append_assoc, ← hX]
      rw [e2, hlen] at hs
      have w3 : IntKind.i64.wrap ((i : Int) - j) = ((i - j : Nat) : Int) := by rw [wrap64 (by omega)]; omega
      obtain ⟨r, hr⟩ : ∃ r, i - j = r := ⟨_, rfl⟩
      rw [hr] at w3
      simp (maxSteps := 4000000) [List.getElem?_cons_zero, List.getElem?_cons_succ, hi, hj, hij, hlt, w2, w3, hs]
      refine ⟨p ++ Y, X.drop j, X.take j, q, ⟨?_, ?_, ?_, ?_⟩, ?_, ?_, ?_⟩
      · simp; omega
      · simp; omega
      · simp; omega
      · rw [← h4]
        simp only [List.append_assoc]
        rw [← List.append_assoc (X.take j), ← hX]
      · simp; omega
      · simp; omega
      · simp
    · have hlt' : i < j := by omega
      have hY : Y = Y.take (j - i) ++ Y.drop (j - i) := (List.take_append_drop (j - i) Y).symm
      obtain ⟨r, hr⟩ : ∃ r, j - i = r := ⟨_, rfl⟩
      rw [hr] at hY
      have hs := swapRange_eq b σ (p ++ (X ++ (Y.take r ++ (Y.drop r ++ q)))) z (m + r) i g (by simp; omega) (by simp; omega) (by simp; omega) hb
      have hsw := swapN_at (pre := p) (U := X) (mid := Y.take r) (V := Y.drop r) (post := q) (n := i) hi (by simp; omega)
      have e1 : p.length + (i + (Y.take r).length) = m + r := by simp; omega
      rw [e1, hp, hz] at hsw
      rw [hsw] at hs
      have e2 : Y.take r ++ (Y.drop r ++ q) = Y ++ q := by rw [← List.append_assoc, ← hY]
      rw [e2, hlen] at hs
      have w3 : IntKind.i64.wrap ((j : Int) - i) = (r : Int) := by rw [wrap64 (by omega)]; omega
      obtain ⟨y, hy⟩ : ∃ y, m + r = y := ⟨_, rfl⟩
      have w4 : IntKind.i64.wrap ((m : Int) + j) = (m : Int) + j := wrap64 (by omega)
      have w5 : IntKind.i64.wrap ((m : Int) + j - i) = (y : Int) := by rw [wrap64 (by omega)]; omega
      rw [hy] at hs
      simp (maxSteps := 4000000) [List.getElem?_cons_zero, List.getElem?_cons_succ, hi, hj, hij, hlt, w2, w3, w4, w5, hs]
      refine ⟨p, Y.drop r, Y.take r, X ++ q, ⟨?_, ?_, ?_, ?_⟩, ?_, ?_, ?_⟩
      · simp; omega
      · simp; omega
      · simp; omega
      · rw [← h4]
        rw [← List.append_assoc (Y.take r), ← hY]
      · simp; omega
      · simp; omega
      · simp
end Go.Proofs.Tryz.Ai
end
section
/- Sorting a row of texts: merging. -/
namespace Go.Proofs.Tryz.Ai
open Go Go.AI Go.Proofs
set_option maxHeartbeats 400000
set_option linter.unusedVariables false

theorem half_w {i j : Nat} (h : i + j ≤ 2 ^ 40) : IntKind.i64.wrap ((i : Int) + j) = ((i + j : Nat) : Int) ∧ IntKind.u64.wrap (((i + j : Nat) : Int)) = ((i + j : Nat) : Int) ∧ Int.fdiv ((i + j : Nat) : Int) (2 ^ min 1 IntKind.u64.bits) = (((i + j) / 2 : Nat) : Int) ∧ IntKind.i64.wrap (((i + j) / 2 : Nat) : Int) = (((i + j) / 2 : Nat) : Int) := by
  refine ⟨by rw [wrap64 (by omega)]; omega, wrapU64 (by omega), by rw [show ((2 : Int) ^ min 1 IntKind.u64.bits) = 2 from by decide, Int.fdiv_eq_ediv_of_nonneg _ (by omega)]; omega, wrap64 (by omega)⟩
/-- what a merge does -/
def MrgOk (g : Nat) (c : List UInt8 → List UInt8 → Int) (Q : List UInt8 → Prop) (n : Nat) : Prop :=
  ∀ (b : Nat) (σ : List (List AV)) (pre L R post : List (List UInt8)) (N a m e : Nat), L.length + R.length = n → N ≤ 2 ^ 30 → N = pre.length + (L.length + (R.length + post.length)) → a = pre.length → m = a + L.length → e = m + R.length → 0 < L.length → 0 < R.length →
    Srt c L → Srt c R → (∀ x ∈ L, Q x) → (∀ x ∈ R, Q x) → b < σ.length →
    ev 154 [.ms 9 1 b 0 N, .int .i64 a, .int .i64 m, .int .i64 e, .fn g []] (σ.set b (rowE es (pre ++ (L ++ (R ++ post))))) = some (.tup [], σ.set b (rowE es (pre ++ (mrg c L R ++ post))))
theorem merge_one {g : Nat} {c : List UInt8 → List UInt8 → Int} {Q : List UInt8 → Prop} (h : CmpOk g c Q) (b : Nat) (σ : List (List AV)) (pre : List (List UInt8)) (x : List UInt8) (R post : List (List UInt8)) (N a m e : Nat) (hN : N ≤ 2 ^ 30) (hNe : N = pre.length + (1 + (R.length + post.length))) (ha : a = pre.length) (hm : m = a + 1) (he : e = m + R.length)
    (hR : Srt c R) (hx : Q x) (hQ : ∀ x ∈ R, Q x) (hb : b < σ.length) :
    ev 154 [.ms 9 1 b 0 N, .int .i64 a, .int .i64 m, .int .i64 e, .fn g []] (σ.set b (rowE es (pre ++ ([x] ++ (R ++ post))))) = some (.tup [], σ.set b (rowE es (pre ++ (mrg c [x] R ++ post)))) := by
  obtain ⟨D, hD⟩ : ∃ D, pre ++ ([x] ++ (R ++ post)) = D := ⟨_, rfl⟩
  have hDl : D.length = N := by rw [← hD]; simp; omega
  have hDx : D[a]? = some x := by rw [← hD, ha]; simp
  have hDR : ∀ k, k < R.length → D[m + k]? = R[k]? := by
    intro k hk
    rw [← hD, hm, ha, List.getElem?_append_right (by omega), List.getElem?_append_right (by simp; omega), List.getElem?_append_left (by simp; omega)]
    congr 1; simp; omega
  have w0 : IntKind.i64.wrap ((m : Int) - a) = 1 := by rw [wrap64 (by omega)]; omega
  have hgl := h.lt
  rw [hD]
  refine EV_post rfl Tryz.func154 rfl (by simp [Tryz.ntmps154]) (by kernel_rfl) (by kernel_rfl) ?_
  simp (maxSteps := 4000000) [List.getElem?_cons_zero, List.getElem?_cons_succ, w0]
  refine Post_loop (I := fun p : Nat × Nat => ⟨[(0, .ms 9 1 b 0 N), (1, .int .i64 a), (4, .fn g []), (10, .int .i64 p.1), (11, .int .i64 p.2)], [], σ.set b (rowE es D)⟩)
    (Pr := fun p => m ≤ p.1 ∧ p.1 ≤ p.2 ∧ p.2 ≤ e ∧ (∀ y ∈ R.take (p.1 - m), c y x < 0) ∧ (∀ y ∈ R.drop (p.2 - m), ¬ c y x < 0)) (μ := fun p => p.2 - p.1) (a := (m, e)) (by simp) (by simp [he]) ?_
  rintro ⟨i, j⟩ ⟨h1, h2, h3, h4, h5⟩
  simp only at h1 h2 h3 h4 h5 ⊢
  by_cases hc : i < j
  · have hw := half_w (i := i) (j := j) (by omega)
    obtain ⟨z, hz⟩ : ∃ z, i + j = z := ⟨_, rfl⟩
    obtain ⟨k, hk⟩ : ∃ z, (i + j) / 2 = z := ⟨_, rfl⟩
    rw [hk, hz] at hw
    obtain ⟨hw1, hw2, hw3, hw4⟩ := hw
    have hk1 : i ≤ k ∧ k < j := by omega
    obtain ⟨y, hy⟩ : ∃ y, R[k - m]? = some y := ⟨_, List.getElem?_eq_getElem (by omega)⟩
    have hDy : D[k]? = some y := by rw [← hy, ← hDR _ (by omega)]; congr 1; omega
    have g1 := es_get hDx
    have g2 := es_get hDy
    have hcmp := h.run y x (hQ y (List.mem_of_getElem? hy)) hx
    have p1 : k < N := by omega
    have p2 : a < N := by omega
    have w5 : IntKind.i64.wrap ((k : Int) + 1) = ((k + 1 : Nat) : Int) := by rw [wrap64 (by omega)]; omega
    simp (maxSteps := 4000000) [List.getElem?_cons_zero, List.getElem?_cons_succ, -regionA_true, hc, hw1, hw2, hw3, hw4]
    refine Post_bndD [] _ (by rfl) (by simp (maxSteps := 4000000) [List.getElem?_cons_zero, List.getElem?_cons_succ, ]; exact rfl) ?_
    repeat (first
      | refine PostD_go _ (by rfl) (by rfl) (by simp (maxSteps := 4000000) [List.getElem?_cons_zero, List.getElem?_cons_succ, -getElem?_pos, p1, p2, g1, g2, hgl, hcmp, hb]; exact rfl) (by first | exact .inl rfl | exact .inr rfl) (by rfl) ?_
      | refine PostD_no (by rfl) (by rfl) ?_)
    refine PostD_end ?_
    have hge : k - m < R.length := by omega
    by_cases hlt : c y x < 0
    · simp (maxSteps := 4000000) [List.getElem?_cons_zero, List.getElem?_cons_succ, hlt, w5]
      refine ⟨k + 1, j, ⟨by omega, by omega, by omega, fun w hw => ?_, fun w hw => ?_⟩, by omega, by simp⟩
      · obtain ⟨q, hq, hw⟩ := mem_take_get hw
        exact h.tp.le_lt (srt_get h.tp hR (by omega) hw hy) hlt
      · have := h5 w hw; omega
    · simp (maxSteps := 4000000) [List.getElem?_cons_zero, List.getElem?_cons_succ, hlt]
      refine ⟨i, k, ⟨by omega, by omega, by omega, fun w hw => ?_, fun w hw => ?_⟩, by omega, by simp, by simp⟩
      · exact h4 w hw
      · obtain ⟨q, hq, hw⟩ := mem_drop_get hw
        have := h.tp.nlt.1 hlt
        have := h.tp.trans _ _ _ this (srt_get h.tp hR hq hy hw)
        have := h.tp.flip x w; omega
  · have hij : i = j := by omega
    subst hij
    simp (maxSteps := 4000000) [List.getElem?_cons_zero, List.getElem?_cons_succ, hc]
    obtain ⟨p, hp⟩ : ∃ p, i - m = p := ⟨_, rfl⟩
    rw [hp] at h4 h5
    have hfin : mrg c [x] R = R.take p ++ x :: R.drop p := by
      conv => lhs; rw [← List.take_append_drop p R]
      exact mrg_one' h4 h5
    have hi : i = a + 1 + p := by omega
    have hpR : p ≤ R.length := by omega
    have w1 : IntKind.i64.wrap ((i : Int) - 1) = ((a + p : Nat) : Int) := by rw [wrap64 (by omega)]; omega
    refine Post_loop (I := fun u : Nat => ⟨[(0, .ms 9 1 b 0 N), (10, .int .i64 i), (13, .int .i64 ((a + u : Nat) : Int))], [], σ.set b (rowE es (pre ++ (R.take u ++ x :: (R.drop u ++ post))))⟩)
      (Pr := fun u => u ≤ p) (μ := fun u => p - u) (a := 0) (by simp [← hD]) (by simp) ?_
    intro u hu
    by_cases huc : u < p
    · obtain ⟨y, hy⟩ : ∃ y, R[u]? = some y := ⟨_, List.getElem?_eq_getElem (by omega)⟩
      have hB := bubR (pre := pre) (rest := post) (x := x) hy
      rw [← ha] at hB
      obtain ⟨D', hD'⟩ : ∃ D', pre ++ (R.take u ++ x :: (R.drop u ++ post)) = D' := ⟨_, rfl⟩
      rw [hD'] at hB ⊢
      have hDl' : D'.length = N := by rw [← hD']; simp; omega
      obtain ⟨k, hk⟩ : ∃ z, a + u = z := ⟨_, rfl⟩
      obtain ⟨k1, hk1⟩ : ∃ z, k + 1 = z := ⟨_, rfl⟩
      have e1 : a + (u + 1) = k1 := by omega
      rw [hk, e1] at hB
      obtain ⟨z, hz⟩ : ∃ z, a + p = z := ⟨_, rfl⟩
      rw [hz] at w1
      have q1 : k < z := by omega
      have w2 : IntKind.i64.wrap ((k : Int) + 1) = (k1 : Int) := by rw [wrap64 (by omega)]; omega
      have g1 := es_get hB.1
      have g2 := es_get hB.2.1
      have s1 := es_set (D := D') (i := k) (y := y) (by omega)
      have s2 := es_set (D := D'.set k y) (i := k1) (y := x) (by simp; omega)
      have hsw := hB.2.2
      rw [swap2_eq hB.1 hB.2.1] at hsw
      have p1 : k < N := by omega
      have p2 : k1 < N := by omega
      have p5 : k + 1 ≤ (rowE es D').length := by rw [es_len]; omega
      have p6 : k1 + 1 ≤ (rowE es (D'.set k y)).length := by rw [es_len]; simp; omega
      rw [hk]
      simp (maxSteps := 4000000) [List.getElem?_cons_zero, List.getElem?_cons_succ, -regionA_true, w1, q1]
      refine Post_bndD [] _ (by rfl) (by simp (maxSteps := 4000000) [List.getElem?_cons_zero, List.getElem?_cons_succ, ]; exact rfl) ?_
      repeat (first
        | refine PostD_go _ (by rfl) (by rfl) (by simp (maxSteps := 4000000) [List.getElem?_cons_zero, List.getElem?_cons_succ, -getElem?_pos, w2, p1, p2, p5, p6, g1, g2, s1, s2, hb]; exact rfl) (by first | exact .inl rfl | exact .inr rfl) (by rfl) ?_
        | refine PostD_no (by rfl) (by rfl) ?_)
      refine PostD_end ?_
      simp (maxSteps := 4000000) [List.getElem?_cons_zero, List.getElem?_cons_succ, w2]
      exact ⟨u + 1, by omega, by omega, by omega, by rw [hsw]⟩
    · obtain rfl : u = p := by omega
      obtain ⟨k, hk⟩ : ∃ z, a + u = z := ⟨_, rfl⟩
      rw [hk] at w1 ⊢
      have hlow := lowS_setset (σ := σ) (b := b) (X := rowE es D) (lowL_rowE (E := es) (n := σ.length) (fun x => ⟨trivial, trivial⟩) (pre ++ (mrg c [x] R ++ post)))
      have e2 : pre ++ (R.take u ++ x :: (R.drop u ++ post)) = pre ++ (mrg c [x] R ++ post) := by rw [hfin]; simp
      rw [e2]
      obtain ⟨X, hX⟩ : ∃ X, rowE es (pre ++ (mrg c [x] R ++ post)) = X := ⟨_, rfl⟩
      rw [hX] at hlow ⊢
      simp (maxSteps := 4000000) [List.getElem?_cons_zero, List.getElem?_cons_succ, w1]
      rw [need_of hlow]
theorem merge_last {g : Nat} {c : List UInt8 → List UInt8 → Int} {Q : List UInt8 → Prop} (h : CmpOk g c Q) (b : Nat) (σ : List (List AV)) (pre : List (List UInt8)) (x : List UInt8) (L post : List (List UInt8)) (N a m e : Nat) (hN : N ≤ 2 ^ 30) (hNe : N = pre.length + (L.length + (1 + post.length))) (ha : a = pre.length) (hm : m = a + L.length) (he : e = m + 1) (h2 : 2 ≤ L.length)
    (hL : Srt c L) (hx : Q x) (hQ : ∀ x ∈ L, Q x) (hb : b < σ.length) :
    ev 154 [.ms 9 1 b 0 N, .int .i64 a, .int .i64 m, .int .i64 e, .fn g []] (σ.set b (rowE es (pre ++ (L ++ ([x] ++ post))))) = some (.tup [], σ.set b (rowE es (pre ++ (mrg c L [x] ++ post)))) := by
  obtain ⟨D, hD⟩ : ∃ D, pre ++ (L ++ ([x] ++ post)) = D := ⟨_, rfl⟩
  have hDl : D.length = N := by rw [← hD]; simp; omega
  have hDx : D[m]? = some x := by
    rw [← hD, hm, ha, List.getElem?_append_right (by omega), List.getElem?_append_right (by omega)]; simp
  have hDL : ∀ k, k < L.length → D[a + k]? = L[k]? := by
    intro k hk
    rw [← hD, ha, List.getElem?_append_right (by omega), List.getElem?_append_left (by omega)]
    congr 1; omega
  have w0 : IntKind.i64.wrap ((m : Int) - a) = (L.length : Int) := by rw [wrap64 (by omega)]; omega
  have w1 : IntKind.i64.wrap ((e : Int) - m) = 1 := by rw [wrap64 (by omega)]; omega
  have hgl := h.lt
  have q0 : ¬ (L.length : Int) = 1 := by omega
  have q0' : ¬ L.length = 1 := by omega
  rw [hD]
  refine EV_post rfl Tryz.func154 rfl (by simp [Tryz.ntmps154]) (by kernel_rfl) (by kernel_rfl) ?_
  simp (maxSteps := 4000000) [List.getElem?_cons_zero, List.getElem?_cons_succ, w0, w1, q0, q0']
  refine Post_loop (I := fun p : Nat × Nat => ⟨[(0, .ms 9 1 b 0 N), (2, .int .i64 m), (4, .fn g []), (14, .int .i64 p.1), (15, .int .i64 p.2)], [], σ.set b (rowE es D)⟩)
    (Pr := fun p => a ≤ p.1 ∧ p.1 ≤ p.2 ∧ p.2 ≤ m ∧ (∀ y ∈ L.take (p.1 - a), ¬ c x y < 0) ∧ (∀ y ∈ L.drop (p.2 - a), c x y < 0)) (μ := fun p => p.2 - p.1) (a := (a, m)) (by simp) (by simp [hm]) ?_
  rintro ⟨i, j⟩ ⟨h1, h2, h3, h4, h5⟩
  simp only at h1 h2 h3 h4 h5 ⊢
  by_cases hc : i < j
  · have hw := half_w (i := i) (j := j) (by omega)
    obtain ⟨z, hz⟩ : ∃ z, i + j = z := ⟨_, rfl⟩
    obtain ⟨k, hk⟩ : ∃ z, (i + j) / 2 = z := ⟨_, rfl⟩
    rw [hk, hz] at hw
    obtain ⟨hw1, hw2, hw3, hw4⟩ := hw
    have hk1 : i ≤ k ∧ k < j := by omega
    obtain ⟨y, hy⟩ : ∃ y, L[k - a]? = some y := ⟨_, List.getElem?_eq_getElem (by omega)⟩
    have hDy : D[k]? = some y := by rw [← hy, ← hDL _ (by omega)]; congr 1; omega
    have g1 := es_get hDx
    have g2 := es_get hDy
    have hcmp := h.run x y hx (hQ y (List.mem_of_getElem? hy))
    have p1 : k < N := by omega
    have p2 : m < N := by omega
    have w5 : IntKind.i64.wrap ((k : Int) + 1) = ((k + 1 : Nat) : Int) := by rw [wrap64 (by omega)]; omega
    simp (maxSteps := 4000000) [List.getElem?_cons_zero, List.getElem?_cons_succ, -regionA_true, hc, hw1, hw2, hw3, hw4]
    refine Post_bndD [] _ (by rfl) (by simp (maxSteps := 4000000) [List.getElem?_cons_zero, List.getElem?_cons_succ, ]; exact rfl) ?_
    repeat (first
      | refine PostD_go _ (by rfl) (by rfl) (by simp (maxSteps := 4000000) [List.getElem?_cons_zero, List.getElem?_cons_succ, -getElem?_pos, p1, p2, g1, g2, hgl, hcmp, hb]; exact rfl) (by first | exact .inl rfl | exact .inr rfl) (by rfl) ?_
      | refine PostD_no (by rfl) (by rfl) ?_)
    refine PostD_end ?_
    by_cases hlt : c x y < 0
    · simp (maxSteps := 4000000) [List.getElem?_cons_zero, List.getElem?_cons_succ, hlt]
      refine ⟨i, k, ⟨by omega, by omega, by omega, fun w hw => ?_, fun w hw => ?_⟩, by omega, by simp, by simp⟩
      · have := h4 w hw; omega
      · obtain ⟨q, hq, hw⟩ := mem_drop_get hw
        exact h.tp.lt_le hlt (srt_get h.tp hL hq hy hw)
    · simp (maxSteps := 4000000) [List.getElem?_cons_zero, List.getElem?_cons_succ, hlt, w5]
      refine ⟨k + 1, j, ⟨by omega, by omega, by omega, fun w hw => ?_, fun w hw => ?_⟩, by omega, by simp⟩
      · obtain ⟨q, hq, hw⟩ := mem_take_get hw
        have := h.tp.trans _ _ _ (srt_get h.tp hL (by omega) hw hy) (h.tp.nlt.1 hlt)
        have := h.tp.flip x w; omega
      · exact h5 w hw
  · have hij : i = j := by omega
    subst hij
    simp (maxSteps := 4000000) [List.getElem?_cons_zero, List.getElem?_cons_succ, hc]
    obtain ⟨p, hp⟩ : ∃ p, i - a = p := ⟨_, rfl⟩
    rw [hp] at h4 h5
    have hfin : mrg c L [x] = L.take p ++ x :: L.drop p := by
      conv => lhs; rw [← List.take_append_drop p L]
      exact mrg_one h4 h5
    have hi : i = a + p := by omega
    have hpR : p ≤ L.length := by omega
    refine Post_loop (I := fun u : Nat => ⟨[(0, .ms 9 1 b 0 N), (14, .int .i64 i), (17, .int .i64 ((a + u : Nat) : Int))], [], σ.set b (rowE es (pre ++ (L.take u ++ x :: (L.drop u ++ post))))⟩)
      (Pr := fun u => p ≤ u ∧ u ≤ L.length) (μ := fun u => u - p) (a := L.length) (by simp [← hD, hm]) (by simp; omega) ?_
    rintro u ⟨hu, hul⟩
    by_cases huc : p < u
    · obtain ⟨w, rfl⟩ : ∃ w, u = w + 1 := ⟨u - 1, by omega⟩
      obtain ⟨y, hy⟩ : ∃ y, L[w]? = some y := ⟨_, List.getElem?_eq_getElem (by omega)⟩
      have hB := bubL (pre := pre) (rest := post) (x := x) hy
      rw [← ha] at hB
      obtain ⟨D', hD'⟩ : ∃ D', pre ++ (L.take (w + 1) ++ x :: (L.drop (w + 1) ++ post)) = D' := ⟨_, rfl⟩
      rw [hD'] at hB ⊢
      have hDl' : D'.length = N := by rw [← hD']; simp; omega
      obtain ⟨k, hk⟩ : ∃ z, a + w = z := ⟨_, rfl⟩
      obtain ⟨k1, hk1⟩ : ∃ z, k + 1 = z := ⟨_, rfl⟩
      have e1 : a + (w + 1) = k1 := by omega
      rw [hk, e1] at hB
      have q1 : i < k1 := by omega
      have w2 : IntKind.i64.wrap ((k1 : Int) - 1) = (k : Int) := by rw [wrap64 (by omega)]; omega
      have g1 := es_get hB.1
      have g2 := es_get hB.2.1
      have s1 := es_set (D := D') (i := k1) (y := y) (by omega)
      have s2 := es_set (D := D'.set k1 y) (i := k) (y := x) (by simp; omega)
      have hsw := hB.2.2
      rw [swap2_eq hB.2.1 hB.1] at hsw
      have p1 : k < N := by omega
      have p2 : k1 < N := by omega
      have p5 : k1 + 1 ≤ (rowE es D').length := by rw [es_len]; omega
      have p6 : k + 1 ≤ (rowE es (D'.set k1 y)).length := by rw [es_len]; simp; omega
      rw [e1]
      simp (maxSteps := 4000000) [List.getElem?_cons_zero, List.getElem?_cons_succ, -regionA_true, q1]
      refine Post_bndD [] _ (by rfl) (by simp (maxSteps := 4000000) [List.getElem?_cons_zero, List.getElem?_cons_succ, ]; exact rfl) ?_
      repeat (first
        | refine PostD_go _ (by rfl) (by rfl) (by simp (maxSteps := 4000000) [List.getElem?_cons_zero, List.getElem?_cons_succ, -getElem?_pos, w2, p1, p2, p5, p6, g1, g2, s1, s2, hb]; exact rfl) (by first | exact .inl rfl | exact .inr rfl) (by rfl) ?_
        | refine PostD_no (by rfl) (by rfl) ?_)
      refine PostD_end ?_
      simp (maxSteps := 4000000) [List.getElem?_cons_zero, List.getElem?_cons_succ, w2]
      exact ⟨w, ⟨by omega, by omega⟩, by omega, by omega, by rw [hsw]⟩
    · obtain rfl : u = p := by omega
      have e3 : a + u = i := by omega
      rw [e3]
      have hlow := lowS_setset (σ := σ) (b := b) (X := rowE es D) (lowL_rowE (E := es) (n := σ.length) (fun x => ⟨trivial, trivial⟩) (pre ++ (mrg c L [x] ++ post)))
      have e2 : pre ++ (L.take u ++ x :: (L.drop u ++ post)) = pre ++ (mrg c L [x] ++ post) := by rw [hfin]; simp
      rw [e2]
      obtain ⟨X, hX⟩ : ∃ X, rowE es (pre ++ (mrg c L [x] ++ post)) = X := ⟨_, rfl⟩
      rw [hX] at hlow ⊢
      simp (maxSteps := 4000000) [List.getElem?_cons_zero, List.getElem?_cons_succ, ]
      rw [need_of hlow]
end Go.Proofs.Tryz.Ai
end
section
/- Sorting a row of texts: merging two rows. -/
namespace Go.Proofs.Tryz.Ai
open Go Go.AI Go.Proofs
set_option maxHeartbeats 2000000
set_option linter.unusedVariables false

theorem Post_of_eq {o : Option (Ex × St)} {st2 : St} {K : Ex → St → Prop} (e : o = some (.normal, st2)) (k : K .normal st2) : Post o K := ⟨_, _, e, k⟩
theorem cut_nums {l r a m e N : Nat} (hm : m = a + l) (he : e = m + r) (heN : e ≤ N) (hN : N ≤ 2 ^ 30) (hl : 2 ≤ l) (hr : 2 ≤ r) : ∃ mid nn p0 S0 S1 : Nat,
    (a ≤ S0 ∧ S0 ≤ S1 ∧ S1 ≤ mid ∧ S1 ≤ m ∧ mid ≤ S0 + r ∧ (S0 = a ∨ mid = S0 + r) ∧ (S1 = mid ∨ S1 = m) ∧ nn = mid + m ∧ p0 + 1 = nn ∧ a < mid ∧ mid < e) ∧
    IntKind.i64.wrap ((a : Int) + e) = ((a + e : Nat) : Int) ∧ IntKind.u64.wrap (((a + e : Nat) : Int)) = ((a + e : Nat) : Int) ∧ Int.fdiv ((a + e : Nat) : Int) (2 ^ min 1 IntKind.u64.bits) = (mid : Int) ∧ IntKind.i64.wrap (mid : Int) = (mid : Int) ∧
    IntKind.i64.wrap ((mid : Int) + m) = (nn : Int) ∧ IntKind.i64.wrap ((nn : Int) - 1) = (p0 : Int) ∧ (mid < m → IntKind.i64.wrap ((nn : Int) - e) = (S0 : Int) ∧ S1 = mid) ∧ (¬ mid < m → S0 = a ∧ S1 = m) := by
  have hmw := half_w (i := a) (j := e) (by omega)
  obtain ⟨h1, h2, h3, h4⟩ := hmw
  refine ⟨(a + e) / 2, (a + e) / 2 + m, (a + e) / 2 + m - 1, if (a + e) / 2 < m then (a + e) / 2 + m - e else a, if (a + e) / 2 < m then (a + e) / 2 else m, ?_, h1, h2, h3, h4, ?_, ?_, fun q => ?_, fun q => ?_⟩
  · clear h1 h2 h3 h4
    split <;> omega
  · rw [wrap64 (by omega)]; omega
  · rw [wrap64 (by omega)]; omega
  · rw [if_pos q, if_pos q]; exact ⟨by rw [wrap64 (by omega)]; omega, rfl⟩
  · rw [if_neg q, if_neg q]; exact ⟨rfl, rfl⟩
theorem merge_eq {g : Nat} {c : List UInt8 → List UInt8 → Int} {Q : List UInt8 → Prop} (h : CmpOk g c Q) (n : Nat) : MrgOk g c Q n := by
  induction n using Nat.strongRecOn with
  | _ n ih =>
  intro b σ pre L R post N a m e hn hN hNe ha hm he hL0 hR0 hL hR hQL hQR hb
  by_cases l1 : L.length = 1
  · obtain ⟨x, rfl⟩ := List.length_eq_one_iff.1 l1
    exact merge_one h b σ pre x R post N a m e hN (by simpa using hNe) ha (by simpa using hm) he hR (hQL x (by simp)) hQR hb
  by_cases r1 : R.length = 1
  · obtain ⟨x, rfl⟩ := List.length_eq_one_iff.1 r1
    exact merge_last h b σ pre x L post N a m e hN (by simpa using hNe) ha hm (by simpa using he) (by omega) hL (hQR x (by simp)) hQL hb
  obtain ⟨D, hD⟩ : ∃ D, pre ++ (L ++ (R ++ post)) = D := ⟨_, rfl⟩
  have hDl : D.length = N := by rw [← hD]; simp; omega
  have hDL : ∀ k, k < L.length → D[a + k]? = L[k]? := by
    intro k hk
    rw [← hD, ha, List.getElem?_append_right (by omega), List.getElem?_append_left (by omega)]
    congr 1; omega
  have hDR : ∀ k, k < R.length → D[m + k]? = R[k]? := by
    intro k hk
    rw [← hD, hm, ha, List.getElem?_append_right (by omega), List.getElem?_append_right (by omega), List.getElem?_append_left (by omega)]
    congr 1; omega
  have w0 : IntKind.i64.wrap ((m : Int) - a) = (L.length : Int) := by rw [wrap64 (by omega)]; omega
  have w1 : IntKind.i64.wrap ((e : Int) - m) = (R.length : Int) := by rw [wrap64 (by omega)]; omega
  have hgl := h.lt
  have q0 : ¬ (L.length : Int) = 1 := by omega
  have q1 : ¬ (R.length : Int) = 1 := by omega
  obtain ⟨mid, nn, p0, S0, S1, k0, hw1, hw2, hw3, hw4, w2, w4, k1, k2⟩ := cut_nums (l := L.length) (r := R.length) (N := N) hm he (by omega) hN (by omega) (by omega)
  obtain ⟨k01, k02, k03, k04, k05, k06, k07, k08, k09, k10, k11⟩ := k0
  have hlow := lowS_setset (σ := σ) (b := b) (X := rowE es D) (lowL_rowE (E := es) (n := σ.length) (fun x => ⟨trivial, trivial⟩) (pre ++ (mrg c L R ++ post)))
  rw [hD]
  obtain ⟨fin, hfin⟩ : ∃ X, rowE es (pre ++ (mrg c L R ++ post)) = X := ⟨_, rfl⟩
  rw [hfin] at hlow ⊢
  refine EV_post rfl Tryz.func154 rfl (by simp [Tryz.ntmps154]) (by kernel_rfl) (by kernel_rfl) ?_
  have hae : ((a + e : Nat) : Int) = (a : Int) + e := by omega
  rw [hae] at hw1 hw2 hw3
  simp (maxSteps := 4000000) [List.getElem?_cons_zero, List.getElem?_cons_succ, w0, w1, q0, q1, l1, r1, hw1, hw2, hw3, hw4, w2]
  clear hae
  refine Post_of_eq (st2 := ⟨[(0, .ms 9 1 b 0 N), (1, .int .i64 a), (2, .int .i64 m), (3, .int .i64 e), (4, .fn g []), (18, .int .i64 mid), (19, .int .i64 nn), (20, .int .i64 S0), (21, .int .i64 S1)], [], σ.set b (rowE es D)⟩) ?_ ?_
  · by_cases hmm : mid < m
    · obtain ⟨w3, e1⟩ := k1 hmm
      simp [hmm, w3, e1]
    · obtain ⟨e0, e1⟩ := k2 hmm
      simp [hmm, e0, e1]
  clear k1 k2
  simp (maxSteps := 4000000) [List.getElem?_cons_zero, List.getElem?_cons_succ, w4]
  clear w0 w1 w2 w4 hw1 hw2 hw3 hw4 q0 q1 l1 r1
  refine Post_loop (I := fun p : Nat × Nat => ⟨[(0, .ms 9 1 b 0 N), (1, .int .i64 a), (2, .int .i64 m), (3, .int .i64 e), (4, .fn g []), (18, .int .i64 mid), (19, .int .i64 nn), (20, .int .i64 p.1), (21, .int .i64 p.2), (22, .int .i64 p0)], [], σ.set b (rowE es D)⟩)
    (Pr := fun p => S0 ≤ p.1 ∧ p.1 ≤ p.2 ∧ p.2 ≤ S1 ∧ (p.1 = S0 ∨ below1 c L R (p.1 - a) (mid - p.1)) ∧ (p.2 = S1 ∨ below2 c L R (p.2 - a) (mid - p.2))) (μ := fun p => p.2 - p.1) (a := (S0, S1)) (by simp) ⟨Nat.le_refl _, k02, Nat.le_refl _, .inl rfl, .inl rfl⟩ ?_
  rintro ⟨i, j⟩ ⟨h1, h2, h3, h4, h5⟩
  simp only at h1 h2 h3 h4 h5 ⊢
  by_cases hc : i < j
  · have hw := half_w (i := i) (j := j) (by omega)
    obtain ⟨z, hz⟩ : ∃ z, i + j = z := ⟨_, rfl⟩
    obtain ⟨k, hk⟩ : ∃ z, (i + j) / 2 = z := ⟨_, rfl⟩
    rw [hk, hz] at hw
    obtain ⟨hv1, hv2, hv3, hv4⟩ := hw
    have hk1 : i ≤ k ∧ k < j := by omega
    obtain ⟨x, hx⟩ : ∃ y, L[k - a]? = some y := ⟨_, List.getElem?_eq_getElem (by omega)⟩
    obtain ⟨y, hy⟩ : ∃ y, R[mid - k - 1]? = some y := ⟨_, List.getElem?_eq_getElem (by omega)⟩
    obtain ⟨k2, hk2⟩ : ∃ z, m + (mid - k - 1) = z := ⟨_, rfl⟩
    have hDx : D[k]? = some x := by rw [← hx, ← hDL _ (by omega)]; congr 1; omega
    have hDy : D[k2]? = some y := by rw [← hy, ← hDR _ (by omega), hk2]
    have g1 := es_get hDx
    have g2 := es_get hDy
    have hcmp := h.run y x (hQR y (List.mem_of_getElem? hy)) (hQL x (List.mem_of_getElem? hx))
    have p1 : k < N := by omega
    have p2 : k2 < N := by omega
    have v5 : IntKind.i64.wrap ((p0 : Int) - k) = (k2 : Int) := by rw [wrap64 (by omega)]; omega
    have v6 : IntKind.i64.wrap ((k : Int) + 1) = ((k + 1 : Nat) : Int) := by rw [wrap64 (by omega)]; omega
    simp (maxSteps := 4000000) [List.getElem?_cons_zero, List.getElem?_cons_succ, -regionA_true, hc, hv1, hv2, hv3, hv4]
    refine Post_bndD [] _ (by rfl) (by simp (maxSteps := 4000000) [List.getElem?_cons_zero, List.getElem?_cons_succ, ]; exact rfl) ?_
    repeat (first
      | refine PostD_go _ (by rfl) (by rfl) (by simp (maxSteps := 4000000) [List.getElem?_cons_zero, List.getElem?_cons_succ, -getElem?_pos, p1, p2, v5, g1, g2, hgl, hcmp, hb]; exact rfl) (by first | exact .inl rfl | exact .inr rfl) (by rfl) ?_
      | refine PostD_no (by rfl) (by rfl) ?_)
    refine PostD_end ?_
    by_cases hlt : c y x < 0
    · simp (maxSteps := 4000000) [List.getElem?_cons_zero, List.getElem?_cons_succ, hlt]
      refine ⟨i, k, ⟨by omega, by omega, by omega, ?_, .inr ⟨x, y, hx, hy, hlt⟩⟩, by omega, by simp, by simp⟩
      exact h4
    · simp (maxSteps := 4000000) [List.getElem?_cons_zero, List.getElem?_cons_succ, hlt, v6]
      refine ⟨k + 1, j, ⟨by omega, by omega, by omega, .inr ⟨x, y, ?_, ?_, hlt⟩, h5⟩, by omega, by simp⟩
      · rw [← hx]; congr 1; omega
      · rw [← hy]; congr 1
  · obtain rfl : i = j := by omega
    obtain ⟨s, hs⟩ : ∃ s, i - a = s := ⟨_, rfl⟩
    obtain ⟨t, ht⟩ : ∃ t, mid - i = t := ⟨_, rfl⟩
    rw [hs, ht] at h4 h5
    have hcut := mrg_cut h.tp hL hR (s := s) (t := t) (by
      rcases h4 with h4 | h4
      · by_cases q : s = 0
        · exact .inl q
        · exact .inr (.inl (by omega))
      · exact .inr (.inr h4)) (by
      rcases h5 with h5 | h5
      · by_cases q : t = 0
        · exact .inl q
        · exact .inr (.inl (by omega))
      · exact .inr (.inr h5))
    obtain ⟨E, hE⟩ : ∃ E, nn - i = E := ⟨_, rfl⟩
    have v1 : IntKind.i64.wrap ((nn : Int) - i) = (E : Int) := by rw [wrap64 (by omega)]; omega
    have hsL : s ≤ L.length := by omega
    have htR : t ≤ R.length := by omega
    have hi : i = a + s := by omega
    have hmi : mid = a + (s + t) := by omega
    have hEm : E = m + t := by omega
    clear h4 h5
    have hLs := List.take_append_drop s L
    have hRs := List.take_append_drop t R
    have lA : (L.take s).length = s := by simp; omega
    have lB : (L.drop s).length = L.length - s := by simp
    have lC : (R.take t).length = t := by simp; omega
    have lD : (R.drop t).length = R.length - t := by simp
    have sA := srt_take hL s
    have sB := srt_drop hL s
    have sC := srt_take hR t
    have sD := srt_drop hR t
    have QA : ∀ x ∈ L.take s, Q x := fun x hx => hQL x (List.mem_of_mem_take hx)
    have QB : ∀ x ∈ L.drop s, Q x := fun x hx => hQL x (List.mem_of_mem_drop hx)
    have QC : ∀ x ∈ R.take t, Q x := fun x hx => hQR x (List.mem_of_mem_take hx)
    have QD : ∀ x ∈ R.drop t, Q x := fun x hx => hQR x (List.mem_of_mem_drop hx)
    rw [hcut] at hfin
    generalize L.take s = A at *
    generalize L.drop s = B at *
    generalize R.take t = C at *
    generalize R.drop t = F at *
    subst hLs hRs
    simp only [List.length_append] at *
    have hrot : 0 < B.length → 0 < C.length → _ := fun q1 q2 => rotate_eq b σ (pre ++ A) B C (F ++ post) g N i m E hN (by simp; omega) (by simp; omega) (by omega) (by omega) q1 q2 hb
    have hm1 : 0 < A.length → 0 < C.length → _ := fun q1 q2 => ih (s + t) (by omega) b σ pre A C (B ++ (F ++ post)) N a i mid (by omega) hN (by simp; omega) ha (by omega) (by omega) q1 q2 sA sC QA QC hb
    have hm2 : 0 < B.length → 0 < F.length → _ := fun q1 q2 => ih (B.length + F.length) (by omega) b σ (pre ++ mrg c A C) B F post N mid E e rfl hN (by simp [(mrg_perm A C).length_eq]; omega) (by simp [(mrg_perm A C).length_eq]; omega) (by omega) (by omega) q1 q2 sB sD QB QD hb
    simp only [List.append_assoc] at hrot hm1 hm2 hfin hD
    rw [hD] at hrot
    have n1 : ¬ (0 < B.length ∧ 0 < C.length) → rowE es D = rowE es (pre ++ (A ++ (C ++ (B ++ (F ++ post))))) := by
      intro q
      rw [← hD]
      rcases Nat.eq_zero_or_pos B.length with q1 | q1
      · rw [List.length_eq_zero_iff.1 q1]; simp
      · rw [List.length_eq_zero_iff.1 (show C.length = 0 by omega)]; simp
    have n2 : ¬ (0 < A.length ∧ 0 < C.length) → rowE es (pre ++ (A ++ (C ++ (B ++ (F ++ post))))) = rowE es (pre ++ (mrg c A C ++ (B ++ (F ++ post)))) := by
      intro q
      rcases Nat.eq_zero_or_pos A.length with q1 | q1
      · rw [List.length_eq_zero_iff.1 q1]; simp
      · rw [List.length_eq_zero_iff.1 (show C.length = 0 by omega)]; simp
    have n3 : ¬ (0 < B.length ∧ 0 < F.length) → rowE es (pre ++ (mrg c A C ++ (B ++ (F ++ post)))) = fin := by
      intro q
      rw [← hfin]
      rcases Nat.eq_zero_or_pos B.length with q1 | q1
      · rw [List.length_eq_zero_iff.1 q1]; simp
      · rw [List.length_eq_zero_iff.1 (show F.length = 0 by omega)]; simp
    rw [hfin] at hm2
    generalize rowE es D = X0 at *
    generalize rowE es (pre ++ (A ++ (C ++ (B ++ (F ++ post))))) = X1 at *
    generalize rowE es (pre ++ (mrg c A C ++ (B ++ (F ++ post)))) = X2 at *
    clear hfin hcut hDL hDR ih k05 k06 k07 hD hDl
    have hrot' : i < m → m < E → _ := fun q1 q2 => hrot (by omega) (by omega)
    have hm1' : a < i → i < mid → _ := fun q1 q2 => hm1 (by omega) (by omega)
    have hm2' : mid < E → E < e → _ := fun q1 q2 => hm2 (by omega) (by omega)
    clear hrot hm1 hm2
    by_cases c1 : i < m <;> by_cases c2 : m < E <;> by_cases c4 : i < mid <;> by_cases c5 : mid < E <;> (first | (exfalso; omega) | skip)
    all_goals by_cases c3 : a < i <;> by_cases c6 : E < e <;> (first | (exfalso; omega) | skip)
    all_goals
      (try have e1 := n1 (by omega)
       try have e2 := n2 (by omega)
       try have e3 := n3 (by omega)
       clear n1 n2 n3
       try subst e1
       try subst e2
       try subst e3
       clear lA lB lC lD sA sB sC sD QA QB QC QD hL hR hQL hQR hL0 hR0 hsL htR hn hNe hi hmi hEm hm he)
    all_goals
      (simp (maxSteps := 4000000) [List.getElem?_cons_zero, List.getElem?_cons_succ, v1, c1, c2, c3, c4, c5, c6, hrot', hm1', hm2']
       try rw [need_of hlow])
end Go.Proofs.Tryz.Ai
end
section
/- Sorting a row of texts: all of it. -/
namespace Go.Proofs.Tryz.Ai
open Go Go.AI Go.Proofs
set_option maxHeartbeats 2000000
set_option linter.unusedVariables false

theorem stable_eq {g : Nat} {c : List UInt8 → List UInt8 → Int} {Q : List UInt8 → Prop} (h : CmpOk g c Q) (b : Nat) (σ : List (List AV)) (L : List (List UInt8)) (n : Nat) (hL : ∀ x ∈ L, Q x) (hn : L.length = n) (hN : n ≤ 2 ^ 30) (hb : b < σ.length) :
    ev 136 [.ms 9 1 b 0 n, .int .i64 n, .fn g []] (σ.set b (rowE es L)) = some (.tup [], σ.set b (rowE es (isrt c L))) := by
  refine EV_post rfl Tryz.func136 rfl (by simp [Tryz.ntmps136]) (by kernel_rfl) (by kernel_rfl) ?_
  simp (maxSteps := 4000000) [List.getElem?_cons_zero, List.getElem?_cons_succ, ]
  refine Post_loop (I := fun q : Nat => ⟨[(0, .ms 9 1 b 0 n), (1, .int .i64 n), (2, .fn g []), (6, .int .i64 20), (7, .int .i64 ((20 * q : Nat) : Int)), (8, .int .i64 ((20 * q + 20 : Nat) : Int))], [], σ.set b (rowE es (blk c 20 (L.take (20 * q)) ++ L.drop (20 * q)))⟩)
    (Pr := fun q => 20 * q ≤ n) (μ := fun q => n - 20 * q) (a := 0) (by simp [blk_small, isrt]) (by simp) ?_
  intro q hq
  obtain ⟨a, ha⟩ : ∃ a, 20 * q = a := ⟨_, rfl⟩
  rw [ha] at hq ⊢
  have hpl : (blk c 20 (L.take a)).length = a := by rw [blk_len]; simp; omega
  by_cases hc : a + 20 ≤ n
  · have hX : L.drop a = (L.drop a).take 20 ++ L.drop (a + 20) := by rw [← List.drop_drop, List.take_append_drop]
    have hins := insertion_eq h b σ (blk c 20 (L.take a)) ((L.drop a).take 20) (L.drop (a + 20)) (fun x hx => hL x (List.mem_of_mem_drop (List.mem_of_mem_take hx))) n a (a + 20) hN (by rw [hpl]; simp; omega) hpl.symm (by simp; omega) hb
    rw [← hX, ← List.append_assoc, ← blk_next (by omega) q ha.symm (by omega)] at hins
    have w1 : IntKind.i64.wrap (((a + 20 : Nat) : Int) + 20) = ((a + 20 + 20 : Nat) : Int) := by rw [wrap64 (by omega)]; omega
    obtain ⟨a2, ha2⟩ : ∃ z, a + 20 = z := ⟨_, rfl⟩
    rw [ha2] at hins w1 hc ⊢
    simp (maxSteps := 4000000) [List.getElem?_cons_zero, List.getElem?_cons_succ, hc, hins, w1]
    refine ⟨q + 1, by omega, by omega, by omega, ?_⟩
    rw [show 20 * (q + 1) = a2 by omega]
  · obtain ⟨a2, ha2⟩ : ∃ z, a + 20 = z := ⟨_, rfl⟩
    have hins := insertion_eq h b σ (blk c 20 (L.take a)) (L.drop a) [] (fun x hx => hL x (List.mem_of_mem_drop hx)) n a n hN (by rw [hpl]; simp; omega) hpl.symm (by simp; omega) hb
    rw [List.append_nil, List.append_nil, ← blk_last (by omega) q ha.symm (by omega) (by omega)] at hins
    rw [ha2] at hc ⊢
    simp (maxSteps := 4000000) [List.getElem?_cons_zero, List.getElem?_cons_succ, hc, hins]
    refine Post_loop (I := fun k : Nat => ⟨[(0, .ms 9 1 b 0 n), (1, .int .i64 n), (2, .fn g []), (6, .int .i64 k)], [], σ.set b (rowE es (blk c k L))⟩)
      (Pr := fun k => 0 < k ∧ k ≤ 2 ^ 31) (μ := fun k => n - k) (a := 20) (by simp) (by simp) ?_
    clear hins hpl hc ha ha2 hq
    rintro k ⟨hk0, hk⟩
    by_cases hkn : k < n
    · have w1 : IntKind.i64.wrap (2 * (k : Int)) = ((2 * k : Nat) : Int) := by rw [wrap64 (by omega)]; omega
      obtain ⟨k2, hk2⟩ : ∃ z, 2 * k = z := ⟨_, rfl⟩
      rw [hk2] at w1
      simp (maxSteps := 4000000) [List.getElem?_cons_zero, List.getElem?_cons_succ, hkn, w1]
      refine Post_loop (I := fun q : Nat => ⟨[(0, .ms 9 1 b 0 n), (1, .int .i64 n), (2, .fn g []), (6, .int .i64 k), (7, .int .i64 ((k2 * q : Nat) : Int)), (8, .int .i64 ((k2 * q + k2 : Nat) : Int))], [], σ.set b (rowE es (blk c k2 (L.take (k2 * q)) ++ blk c k (L.drop (k2 * q))))⟩)
        (Pr := fun q => k2 * q ≤ n) (μ := fun q => n - k2 * q) (a := 0) (by simp [blk_small, isrt]) (by simp) ?_
      intro q hq
      obtain ⟨a, ha⟩ : ∃ a, k2 * q = a := ⟨_, rfl⟩
      have hq1 : k2 * (q + 1) = a + k2 := by rw [Nat.mul_succ, ha]
      rw [ha] at hq ⊢
      have hpl : (blk c k2 (L.take a)).length = a := by rw [blk_len]; simp; omega
      have hw3 : IntKind.i64.wrap ((a : Int) + k) = ((a + k : Nat) : Int) := by rw [wrap64 (by omega)]; omega
      have hS1 := isrt_srt' h.tp ((L.drop a).take k)
      have hQ1 : ∀ x ∈ isrt c ((L.drop a).take k), Q x := fun x hx => hL x (List.mem_of_mem_drop (List.mem_of_mem_take (isrt_mem.1 hx)))
      by_cases hc : a + k2 ≤ n
      · have e1 : blk c k (L.drop a) = isrt c ((L.drop a).take k) ++ (isrt c ((L.drop (a + k)).take k) ++ blk c k (L.drop (a + k2))) := by
          rw [blk_step hk0, List.drop_drop, blk_step hk0 (L.drop (a + k)), List.drop_drop]
          congr 4; omega
        have hQ2 : ∀ x ∈ isrt c ((L.drop (a + k)).take k), Q x := fun x hx => hL x (List.mem_of_mem_drop (List.mem_of_mem_take (isrt_mem.1 hx)))
        have hm := merge_eq h _ b σ (blk c k2 (L.take a)) (isrt c ((L.drop a).take k)) (isrt c ((L.drop (a + k)).take k)) (blk c k (L.drop (a + k2))) n a (a + k) (a + k2) rfl hN (by rw [hpl, isrt_len, isrt_len, blk_len]; simp; omega) hpl.symm (by rw [isrt_len]; simp; omega) (by rw [isrt_len]; simp; omega) (by rw [isrt_len]; simp; omega) (by rw [isrt_len]; simp; omega) hS1 (isrt_srt' h.tp _) hQ1 hQ2 hb
        rw [← e1, ← isrt_mrg h.tp, ← List.drop_drop, ← List.take_add, ← List.append_assoc, show k + k = k2 by omega, ← blk_next (by omega) q ha.symm (by omega)] at hm
        obtain ⟨m, hmm⟩ : ∃ z, a + k = z := ⟨_, rfl⟩
        obtain ⟨a2, ha2⟩ : ∃ z, a + k2 = z := ⟨_, rfl⟩
        have w4 : IntKind.i64.wrap ((a2 : Int) + k2) = ((a2 + k2 : Nat) : Int) := by rw [wrap64 (by omega)]; omega
        rw [hmm, ha2] at hm
        rw [hmm] at hw3
        rw [ha2] at hc hq1 ⊢
        simp (maxSteps := 4000000) [List.getElem?_cons_zero, List.getElem?_cons_succ, hc, hm, hw3, w1, w4]
        refine ⟨q + 1, by omega, by omega, by rw [← hq1]; simp, ?_⟩
        rw [hq1]
      · obtain ⟨a2, ha2⟩ : ∃ z, a + k2 = z := ⟨_, rfl⟩
        rw [ha2] at hc ⊢
        have w5 : IntKind.i64.wrap ((k : Int) * 2) = (k2 : Int) := by rw [wrap64 (by omega)]; omega
        have hfin : blk c k2 L = blk c k2 (L.take a) ++ isrt c (L.drop a) := blk_last (by omega) q ha.symm (by omega) (by omega)
        obtain ⟨m, hmm⟩ : ∃ z, a + k = z := ⟨_, rfl⟩
        rw [hmm] at hw3
        by_cases hmn : m < n
        · have e1 : blk c k (L.drop a) = isrt c ((L.drop a).take k) ++ isrt c (L.drop m) := by
            rw [blk_step hk0, List.drop_drop, hmm, blk_small (L := L.drop m) (by simp; omega)]
          have hQ2 : ∀ x ∈ isrt c (L.drop m), Q x := fun x hx => hL x (List.mem_of_mem_drop (isrt_mem.1 hx))
          have hm := merge_eq h _ b σ (blk c k2 (L.take a)) (isrt c ((L.drop a).take k)) (isrt c (L.drop m)) [] n a m n rfl hN (by rw [hpl, isrt_len, isrt_len]; simp; omega) hpl.symm (by rw [isrt_len]; simp; omega) (by rw [isrt_len]; simp; omega) (by rw [isrt_len]; simp; omega) (by rw [isrt_len]; simp; omega) hS1 (isrt_srt' h.tp _) hQ1 hQ2 hb
          rw [List.append_nil, List.append_nil, ← e1, ← isrt_mrg h.tp, ← hmm, ← List.drop_drop, List.take_append_drop, hmm, ← hfin] at hm
          simp (maxSteps := 4000000) [List.getElem?_cons_zero, List.getElem?_cons_succ, hc, hm, hw3, hmn, w5]
          exact ⟨k2, by omega, by omega, rfl, rfl⟩
        · have e1 : blk c k2 (L.take a) ++ blk c k (L.drop a) = blk c k2 L := by rw [hfin, blk_small (L := L.drop a) (by simp; omega)]
          rw [e1]
          simp (maxSteps := 4000000) [List.getElem?_cons_zero, List.getElem?_cons_succ, hc, hw3, hmn, w5]
          exact ⟨k2, by omega, by omega, rfl, rfl⟩
    · rw [blk_small (by omega)]
      simp (maxSteps := 4000000) [List.getElem?_cons_zero, List.getElem?_cons_succ, hkn, Tryz.results136]
theorem sortStable_eq {g : Nat} {c : List UInt8 → List UInt8 → Int} {Q : List UInt8 → Prop} (h : CmpOk g c Q) (b : Nat) (σ : List (List AV)) (L : List (List UInt8)) (n : Nat) (hL : ∀ x ∈ L, Q x) (hn : L.length = n) (hN : n ≤ 2 ^ 30) (hb : b < σ.length) :
    ev 123 [.ms 9 1 b 0 n, .fn g []] (σ.set b (rowE es L)) = some (.tup [], σ.set b (rowE es (isrt c L))) := by
  have h1 := stable_eq h b σ L n hL hn hN hb
  refine EV_post rfl Tryz.func123 rfl (by simp [Tryz.ntmps123]) (by kernel_rfl) (by kernel_rfl) ?_
  simp (maxSteps := 4000000) [List.getElem?_cons_zero, List.getElem?_cons_succ, h1, Tryz.results123]
end Go.Proofs.Tryz.Ai
end
section
/- The document's order of versions. -/
namespace Go.Proofs.Tryz.Ai
open Go Go.AI Go.Proofs
set_option maxHeartbeats 2000000
set_option linter.unusedVariables false

theorem rtexts_eq (a b : List UInt8) (σ) : ev 96 [.str a, .str b] σ = some (.int .i64 (bytesC a b), σ) := by
  refine EV_post rfl Tryz.func96 rfl (by simp [Tryz.ntmps96]) (by kernel_rfl) (by kernel_rfl) ?_
  have h1 := bytesLess_eq a b
  have ht := TO.bytes
  rcases ht.sgn a b with h | h | h
  · have hb : Op.bytesLess a b = true := by rw [h1, h]; rfl
    simp (maxSteps := 4000000) [List.getElem?_cons_zero, List.getElem?_cons_succ, hb, h, Tryz.results96]
  · have hab := ht.eq _ _ h
    have hb : Op.bytesLess a b = false := by rw [h1, h]; rfl
    rw [h]
    subst hab
    simp (maxSteps := 4000000) [List.getElem?_cons_zero, List.getElem?_cons_succ, hb, Tryz.results96]
  · have hb : Op.bytesLess a b = false := by rw [h1, h]; rfl
    have hab : (a == b) = false := by
      rw [beq_eq_false_iff_ne]; intro e; subst e
      rw [ht.refl] at h; cases h
    have hab2 : ¬ a = b := by simpa using hab
    simp (maxSteps := 4000000) [List.getElem?_cons_zero, List.getElem?_cons_succ, hb, hab, hab2, h, Tryz.results96]
theorem rorder_eq (a b : Nat) (σ) : ev 97 [.int .i64 a, .int .i64 b] σ = some (.int .i64 (natC a b), σ) := by
  refine EV_post rfl Tryz.func97 rfl (by simp [Tryz.ntmps97]) (by kernel_rfl) (by kernel_rfl) ?_
  unfold natC
  by_cases h : a < b
  · simp (maxSteps := 4000000) [List.getElem?_cons_zero, List.getElem?_cons_succ, h, Tryz.results97]
  · by_cases h2 : b < a
    · simp (maxSteps := 4000000) [List.getElem?_cons_zero, List.getElem?_cons_succ, h, h2, Tryz.results97]
    · simp (maxSteps := 4000000) [List.getElem?_cons_zero, List.getElem?_cons_succ, h, h2, Tryz.results97]
theorem rids_eq (a b : List UInt8) (ha : a.length ≤ 2 ^ 39) (hb : b.length ≤ 2 ^ 39) (σ) : ev 99 [.str a, .str b] σ = some (.int .i64 (idC a b), σ) := by
  have h1 := rdigits_eq a (by omega)
  have h2 := rdigits_eq b (by omega)
  have h3 := rtexts_eq a b
  have h4 := rorder_eq a.length b.length
  refine EV_post rfl Tryz.func99 rfl (by simp [Tryz.ntmps99]) (by kernel_rfl) (by kernel_rfl) ?_
  have hI : idC a b = if allB isD a = true then (if allB isD b = true then orI (natC a.length b.length) (bytesC a b) else -1) else if allB isD b = true then 1 else bytesC a b := rfl
  cases e1 : allB isD a <;> cases e2 : allB isD b <;> rw [e1] at h1 hI <;> rw [e2] at h2 hI
  · simp at hI
    simp (maxSteps := 4000000) [List.getElem?_cons_zero, List.getElem?_cons_succ, h1, h2, h3, hI, Tryz.results99]
  · simp at hI
    simp (maxSteps := 4000000) [List.getElem?_cons_zero, List.getElem?_cons_succ, h1, h2, hI, Tryz.results99]
  · simp at hI
    simp (maxSteps := 4000000) [List.getElem?_cons_zero, List.getElem?_cons_succ, h1, h2, hI, Tryz.results99]
  · simp only [if_true] at hI
    by_cases hl : a.length = b.length
    · have : orI (natC a.length b.length) (bytesC a b) = bytesC a b := by rw [hl]; simp [orI, natC]
      rw [this] at hI
      simp (maxSteps := 4000000) [List.getElem?_cons_zero, List.getElem?_cons_succ, h1, h2, h3, hl, hI, Tryz.results99]
    · have : orI (natC a.length b.length) (bytesC a b) = natC a.length b.length := by
        unfold orI natC; rcases Nat.lt_or_ge a.length b.length with q | q
        · simp [q]
        · have q2 : b.length < a.length := by omega
          have q3 : ¬ a.length < b.length := by omega
          simp [q3, q2]
      rw [this] at hI
      simp (maxSteps := 4000000) [List.getElem?_cons_zero, List.getElem?_cons_succ, h1, h2, h4, hl, hI, Tryz.results99]
theorem natC_ne {a b : Nat} (h : ¬ a = b) (y : Int) : orI (natC a b) y = natC a b := by
  have : ¬ natC a b = 0 := by
    unfold natC
    by_cases q : a < b
    · simp [q]
    · have : b < a := by omega
      simp [q, this]
  unfold orI; rw [if_neg this]
theorem natC_same {a : Nat} (y : Int) : orI (natC a a) y = y := by
  have : natC a a = 0 := by simp [natC]
  unfold orI; rw [if_pos this]
theorem rsign_eq (b : Bool) (σ) : ev 98 [.bool b] σ = some (.int .i64 (if b then 0 else 1), σ) := by
  refine EV_post rfl Tryz.func98 rfl (by simp [Tryz.ntmps98]) (by kernel_rfl) (by kernel_rfl) ?_
  cases b <;> simp (maxSteps := 4000000) [List.getElem?_cons_zero, List.getElem?_cons_succ, Tryz.results98]
theorem rCompare_eq (a b : List UInt8) (ha : a.length ≤ 2 ^ 39) (hb : b.length ≤ 2 ^ 39) (σ) : ev 49 [.str a, .str b] σ = some (.int .i64 (cmpB a b), σ) := by
  have pa := rParts_eq a ha
  have pb := rParts_eq b hb
  have ht := rtexts_eq a b
  have w0 : IntKind.i64.wrap (-1) = -1 := by decide
  refine EV_post rfl Tryz.func49 rfl (by simp [Tryz.ntmps49]) (by kernel_rfl) (by kernel_rfl) ?_
  cases e1 : readB a with
  | none =>
    rw [e1] at pa
    cases e2 : readB b with
    | none =>
      rw [e2] at pb
      have hC : cmpB a b = bytesC a b := by unfold cmpB; rw [e1, e2]
      simp (maxSteps := 4000000) [List.getElem?_cons_zero, List.getElem?_cons_succ, pa, pb, rpartsA, ht, hC, Tryz.results49]
    | some y =>
      rw [e2] at pb
      have hC : cmpB a b = -1 := by unfold cmpB; rw [e1, e2]
      simp (maxSteps := 4000000) [List.getElem?_cons_zero, List.getElem?_cons_succ, pa, pb, rpartsA, hC, Tryz.results49]
  | some x =>
    rw [e1] at pa
    cases e2 : readB b with
    | none =>
      rw [e2] at pb
      have hC : cmpB a b = 1 := by unfold cmpB; rw [e1, e2]
      simp (maxSteps := 4000000) [List.getElem?_cons_zero, List.getElem?_cons_succ, pa, pb, rpartsA, hC, Tryz.results49]
    | some y =>
      rw [e2] at pb
      have hC : cmpB a b = orI (natC x.ma y.ma) (orI (natC x.mi y.mi) (orI (natC x.pa y.pa) (presC x.pre y.pre))) := by unfold cmpB; rw [e1, e2]; rfl
      by_cases g1 : x.ma = y.ma
      · rw [g1, natC_same] at hC
        by_cases g2 : x.mi = y.mi
        · rw [g2, natC_same] at hC
          by_cases g3 : x.pa = y.pa
          · rw [g3, natC_same] at hC
            have hpl : x.pre.length ≤ 60 ∧ y.pre.length ≤ 60 := by
              have rx := readB_some e1
              have ry := readB_some e2
              have := congrArg List.length rx.text
              have := congrArg List.length ry.text
              have := rx.len
              have := ry.len
              unfold verT at *
              constructor
              · split at * <;> split at * <;> simp_all <;> omega
              · split at * <;> split at * <;> simp_all <;> omega
            simp only [rpartsA] at pa pb
            generalize x.pre = p at *
            generalize y.pre = q at *
            by_cases g4 : p = [] ∨ q = []
            · have ho := rorder_eq q.length p.length
              cases p with
              | nil =>
                cases q with
                | nil =>
                  have hC : cmpB a b = 0 := by rw [hC]; simp [presC, natC]
                  have s1 : ∀ σ, ev 98 [.bool true] σ = some (.int .i64 0, σ) := rsign_eq true
                  have s2 : IntKind.i64.wrap 0 = 0 := by decide
                  have ho' : ∀ σ, ev 97 [.int .i64 0, .int .i64 0] σ = some (.int .i64 0, σ) := ho
                  simp (maxSteps := 4000000) [List.getElem?_cons_zero, List.getElem?_cons_succ, pa, pb, g1, g2, g3, hC, ho', s1, s2, Tryz.results49]
                | cons c q =>
                  have hC : cmpB a b = 1 := by rw [hC]; simp [presC, natC]
                  have s1 : ∀ σ, ev 98 [.bool false] σ = some (.int .i64 1, σ) := rsign_eq false
                  have s2 : IntKind.i64.wrap 1 = 1 := by decide
                  have ho' : ∀ σ, ev 97 [.int .i64 ((q.length : Int) + 1), .int .i64 0] σ = some (.int .i64 1, σ) := ho
                  simp (maxSteps := 4000000) [List.getElem?_cons_zero, List.getElem?_cons_succ, pa, pb, g1, g2, g3, hC, ho', s1, s2, Tryz.results49]
              | cons c p =>
                have hq : q = [] := by simpa using g4
                subst hq
                have hC : cmpB a b = -1 := by rw [hC]; simp [presC, natC]
                have s1 : ∀ σ, ev 98 [.bool false] σ = some (.int .i64 1, σ) := rsign_eq false
                have s2 : IntKind.i64.wrap (-1) = -1 := by decide
                have ho' : ∀ σ, ev 97 [.int .i64 0, .int .i64 ((p.length : Int) + 1)] σ = some (.int .i64 (-1), σ) := ho
                simp (maxSteps := 4000000) [List.getElem?_cons_zero, List.getElem?_cons_succ, pa, pb, g1, g2, g3, hC, ho', s1, s2, Tryz.results49]
            · have g5 : ¬ p = [] := fun e => g4 (.inl e)
              have g6 : ¬ q = [] := fun e => g4 (.inr e)
              have g5' : p.isEmpty = false := by simpa using g5
              have g6' : q.isEmpty = false := by simpa using g6
              have hC : cmpB a b = lexC idC (splitB 46 p) (splitB 46 q) := by rw [hC]; unfold presC; rw [if_neg g4]
              have hc1 := Cut_eq p (by omega) 46
              have hc2 := Cut_eq q (by omega) 46
              have hc1' : ∀ σ, ev 77 [.str p, .int .u8 46] σ = some (.sl (.ex 9 1) ((splitB 46 p).map .str), σ) := hc1
              have hc2' : ∀ σ, ev 77 [.str q, .int .u8 46] σ = some (.sl (.ex 9 1) ((splitB 46 q).map .str), σ) := hc2
              have hlp : ∀ s ∈ splitB 46 p, s.length ≤ 60 := fun s hs => by have := splitB_le hs; omega
              have hlq : ∀ s ∈ splitB 46 q, s.length ≤ 60 := fun s hs => by have := splitB_le hs; omega
              have hnp : (splitB 46 p).length ≤ 61 := by have := splitB_many 46 p; omega
              have hnq : (splitB 46 q).length ≤ 61 := by have := splitB_many 46 q; omega
              generalize splitB 46 p = l at *
              generalize splitB 46 q = m at *
              simp (maxSteps := 4000000) [List.getElem?_cons_zero, List.getElem?_cons_succ, pa, pb, g1, g2, g3, g5, g6, g5', g6', hc1', hc2']
              refine Post_loop (I := fun i : Nat => ⟨[(15, .sl (.ex 9 1) (l.map .str)), (16, .sl (.ex 9 1) (m.map .str)), (17, .int .i64 i)], [], σ⟩) (Pr := fun i => i ≤ l.length ∧ i ≤ m.length ∧ lexC idC l m = lexC idC (l.drop i) (m.drop i)) (μ := fun i => l.length - i) (a := 0) (by simp) (by simp) ?_
              rintro i ⟨i1, i2, i3⟩
              by_cases k1 : i < l.length
              · by_cases k2 : i < m.length
                · obtain ⟨x', hx⟩ : ∃ z, l[i]? = some z := ⟨_, List.getElem?_eq_getElem k1⟩
                  obtain ⟨y', hy⟩ : ∃ z, m[i]? = some z := ⟨_, List.getElem?_eq_getElem k2⟩
                  have hdl : l.drop i = x' :: l.drop (i + 1) := by rw [List.drop_eq_getElem_cons k1]; congr 1; exact (List.getElem?_eq_some_iff.1 hx).2
                  have hdm : m.drop i = y' :: m.drop (i + 1) := by rw [List.drop_eq_getElem_cons k2]; congr 1; exact (List.getElem?_eq_some_iff.1 hy).2
                  have hi := rids_eq x' y' (by have := hlp x' (List.mem_of_getElem? hx); omega) (by have := hlq y' (List.mem_of_getElem? hy); omega)
                  have w1 : IntKind.i64.wrap ((i : Int) + 1) = (i : Int) + 1 := wrap64 (by omega)
                  rw [hdl, hdm, lexC] at i3
                  by_cases hz : idC x' y' = 0
                  · rw [hz] at i3
                    simp only [orI, if_true] at i3
                    simp (maxSteps := 4000000) [List.getElem?_cons_zero, List.getElem?_cons_succ, -getElem?_pos, k1, k2, hx, hy, hi, hz, w1]
                    exact ⟨i + 1, ⟨by omega, by omega, i3⟩, by omega, by omega⟩
                  · simp only [orI, if_neg hz] at i3
                    simp (maxSteps := 4000000) [List.getElem?_cons_zero, List.getElem?_cons_succ, -getElem?_pos, k1, k2, hx, hy, hi, hz, hC, i3, Tryz.results49]
                · have ho := rorder_eq l.length m.length
                  have e3 : lexC idC l m = natC l.length m.length := by
                    rw [i3, List.drop_of_length_le (show m.length ≤ i by omega), List.drop_eq_getElem_cons k1]
                    have : m.length < l.length := by omega
                    simp [lexC, natC]; omega
                  simp (maxSteps := 4000000) [List.getElem?_cons_zero, List.getElem?_cons_succ, k1, k2, ho, hC, e3, Tryz.results49]
              · have ho := rorder_eq l.length m.length
                have e3 : lexC idC l m = natC l.length m.length := by
                  rw [i3, List.drop_of_length_le (show l.length ≤ i by omega)]
                  by_cases k2 : i < m.length
                  · rw [List.drop_eq_getElem_cons k2]
                    have : l.length < m.length := by omega
                    simp [lexC, natC]; omega
                  · rw [List.drop_of_length_le (show m.length ≤ i by omega)]
                    have : l.length = m.length := by omega
                    simp [lexC, natC, this]
                simp (maxSteps := 4000000) [List.getElem?_cons_zero, List.getElem?_cons_succ, k1, ho, hC, e3, Tryz.results49]
          · rw [natC_ne g3] at hC
            have ho := rorder_eq x.pa y.pa
            simp (maxSteps := 4000000) [List.getElem?_cons_zero, List.getElem?_cons_succ, pa, pb, rpartsA, g1, g2, g3, hC, ho, Tryz.results49]
        · rw [natC_ne g2] at hC
          have ho := rorder_eq x.mi y.mi
          simp (maxSteps := 4000000) [List.getElem?_cons_zero, List.getElem?_cons_succ, pa, pb, rpartsA, g1, g2, hC, ho, Tryz.results49]
      · rw [natC_ne g1] at hC
        have ho := rorder_eq x.ma y.ma
        simp (maxSteps := 4000000) [List.getElem?_cons_zero, List.getElem?_cons_succ, pa, pb, rpartsA, g1, hC, ho, Tryz.results49]
end Go.Proofs.Tryz.Ai
end
section
/- Sorting a row of texts: the program's and the document's. -/
namespace Go.Proofs.Tryz.Ai
open Go Go.AI Go.Proofs
set_option maxHeartbeats 2000000
set_option linter.unusedVariables false

theorem row_es (l : List (List UInt8)) : rowE es l = l.map .str := by
  induction l with
  | nil => rfl
  | cons a l ih => unfold rowE at *; rw [List.flatMap_cons, ih]; rfl
theorem cmp_ok : CmpOk 15 cmpB (fun s => s.length ≤ 2 ^ 39) := ⟨TO.cmp.tp, by decide, fun x y hx hy σ => cmpB_eq x y hx hy σ⟩
theorem insertion_nil (g : Nat) (σ : List (List AV)) : ev 153 [.sl .sh [], .int .i64 0, .int .i64 0, .fn g []] σ = some (.tup [], σ) := by
  refine EV_post rfl Tryz.func153 rfl (by simp [Tryz.ntmps153]) (by kernel_rfl) (by kernel_rfl) ?_
  have w : IntKind.i64.wrap 1 = 1 := by decide
  simp (maxSteps := 4000000) [List.getElem?_cons_zero, List.getElem?_cons_succ, w]
  refine Post_loop (I := fun q : Nat => ⟨[(0, .sl .sh []), (1, .int .i64 0), (2, .int .i64 0), (3, .fn g []), (8, .int .i64 1)], [], σ⟩) (Pr := fun q => True) (μ := fun q => q) (a := 0) (by simp) (by simp) ?_
  intro q hq
  simp (maxSteps := 4000000) [List.getElem?_cons_zero, List.getElem?_cons_succ, ]
theorem stable_nil (g : Nat) (σ : List (List AV)) : ev 136 [.sl .sh [], .int .i64 0, .fn g []] σ = some (.tup [], σ) := by
  have hI := insertion_nil g
  refine EV_post rfl Tryz.func136 rfl (by simp [Tryz.ntmps136]) (by kernel_rfl) (by kernel_rfl) ?_
  simp (maxSteps := 4000000) [List.getElem?_cons_zero, List.getElem?_cons_succ, ]
  refine Post_loop (I := fun q : Nat => ⟨[(0, .sl .sh []), (1, .int .i64 0), (2, .fn g []), (6, .int .i64 20), (7, .int .i64 0), (8, .int .i64 20)], [], σ⟩) (Pr := fun q => True) (μ := fun q => q) (a := 0) (by simp) (by simp) ?_
  intro q hq
  simp (maxSteps := 4000000) [List.getElem?_cons_zero, List.getElem?_cons_succ, hI]
  refine Post_loop (I := fun q : Nat => ⟨[(0, .sl .sh []), (1, .int .i64 0), (2, .fn g []), (6, .int .i64 20)], [], σ⟩) (Pr := fun q => True) (μ := fun q => q) (a := 0) (by simp) (by simp) ?_
  intro q hq
  simp (maxSteps := 4000000) [List.getElem?_cons_zero, List.getElem?_cons_succ, Tryz.results136]
theorem sortStable_nil (g : Nat) (σ : List (List AV)) : ev 123 [.sl .sh [], .fn g []] σ = some (.tup [], σ) := by
  have h1 := stable_nil g
  refine EV_post rfl Tryz.func123 rfl (by simp [Tryz.ntmps123]) (by kernel_rfl) (by kernel_rfl) ?_
  simp (maxSteps := 4000000) [List.getElem?_cons_zero, List.getElem?_cons_succ, h1, Tryz.results123]
theorem sorted_eq {g : Nat} {c : List UInt8 → List UInt8 → Int} {Q : List UInt8 → Prop} (h : CmpOk g c Q) (l : List (List UInt8)) (hl : l.length ≤ 2 ^ 30) (hQ : ∀ x ∈ l, Q x) (σ : List (List AV)) :
    ev 90 [.sl .sh (l.map .str), .fn g []] σ = some (.sl (.ex 9 1) ((isrt c l).map .str), σ) := by
  cases l with
  | nil =>
    have hS := sortStable_nil g
    refine EV_post rfl Tryz.func90 rfl (by simp [Tryz.ntmps90]) (by kernel_rfl) (by kernel_rfl) ?_
    simp (maxSteps := 4000000) [List.getElem?_cons_zero, List.getElem?_cons_succ, hS, isrt, Tryz.results90]
  | cons x r =>
    have hS := sortStable_eq h σ.length (σ ++ [[]]) (x :: r) (r.length + 1) hQ (by simp) (by simpa using hl) (by simp)
    rw [row_es, row_es] at hS
    obtain ⟨L, hL⟩ : ∃ L, isrt c (x :: r) = L := ⟨_, rfl⟩
    have hLl : L.length = r.length + 1 := by rw [← hL, isrt_len]; simp
    rw [hL] at hS ⊢
    simp at hS hl
    refine EV_post rfl Tryz.func90 rfl (by simp [Tryz.ntmps90]) (by kernel_rfl) (by kernel_rfl) ?_
    simp (maxSteps := 4000000) [List.getElem?_cons_zero, List.getElem?_cons_succ, hS, hLl, Tryz.results90]
    repeat (rw [need_of]; rotate_left; (· (try unfold most); omega); simp (maxSteps := 4000000) [List.getElem?_cons_zero, List.getElem?_cons_succ, hS, hLl, Tryz.results90])
    rw [← hLl, show List.take L.length (L.map AV.str) = L.map .str from List.take_of_length_le (by simp), need_of (by simp)]
theorem Sort_eq (l : List (List UInt8)) (hl : l.length ≤ 2 ^ 30) (hQ : ∀ x ∈ l, x.length ≤ 2 ^ 39) (σ : List (List AV)) : ev 40 [.sl .sh (l.map .str)] σ = some (.sl (.ex 9 1) ((isrt cmpB l).map .str), σ) := by
  have h := sorted_eq cmp_ok l hl hQ
  refine EV_post rfl Tryz.func40 rfl (by simp [Tryz.ntmps40]) (by kernel_rfl) (by kernel_rfl) ?_
  simp (maxSteps := 4000000) [List.getElem?_cons_zero, List.getElem?_cons_succ, h, Tryz.results40]
theorem SameTexts_eq (a b : List (List UInt8)) (ha : a.length ≤ 2 ^ 40) (σ : List (List AV)) : ev 41 [.sl .sh (a.map .str), .sl .sh (b.map .str)] σ = some (.bool (decide (a = b)), σ) := by
  refine EV_post rfl Tryz.func41 rfl (by simp [Tryz.ntmps41]) (by kernel_rfl) (by kernel_rfl) ?_
  by_cases hl : a.length = b.length
  · simp (maxSteps := 4000000) [List.getElem?_cons_zero, List.getElem?_cons_succ, hl]
    refine Post_loop (I := fun i : Nat => ⟨[(0, .sl .sh (a.map .str)), (1, .sl .sh (b.map .str)), (5, .int .i64 i)], [], σ⟩) (Pr := fun i => i ≤ a.length ∧ a.take i = b.take i) (μ := fun i => a.length - i) (a := 0) (by simp) (by simp) ?_
    rintro i ⟨i1, i2⟩
    by_cases hc : i < a.length
    · obtain ⟨x, hx⟩ : ∃ z, a[i]? = some z := ⟨_, List.getElem?_eq_getElem hc⟩
      obtain ⟨y, hy⟩ : ∃ z, b[i]? = some z := ⟨_, List.getElem?_eq_getElem (by omega)⟩
      have hcb : i < b.length := by omega
      have w1 : IntKind.i64.wrap ((i : Int) + 1) = (i : Int) + 1 := wrap64 (by omega)
      by_cases hxy : x = y
      · subst hxy
        simp (maxSteps := 4000000) [List.getElem?_cons_zero, List.getElem?_cons_succ, -getElem?_pos, hcb, hl, hx, hy, w1]
        exact ⟨i + 1, ⟨by omega, by rw [List.take_add_one, List.take_add_one, hx, hy, i2]⟩, by omega, by simp⟩
      · have hab : ¬ a = b := by
          intro e
          subst e
          rw [hx] at hy
          exact hxy (by simpa using hy)
        have hxy' : (x == y) = false := by simpa using hxy
        simp (maxSteps := 4000000) [List.getElem?_cons_zero, List.getElem?_cons_succ, -getElem?_pos, hcb, hl, hx, hy, hxy, hxy', hab, Tryz.results41]
    · have hab : a = b := by
        rw [List.take_of_length_le (by omega), List.take_of_length_le (by omega)] at i2
        exact i2
      have hcb : ¬ i < b.length := by omega
      subst hab
      simp (maxSteps := 4000000) [List.getElem?_cons_zero, List.getElem?_cons_succ, hcb, Tryz.results41]
  · have hab : ¬ a = b := fun e => hl (by rw [e])
    simp (maxSteps := 4000000) [List.getElem?_cons_zero, List.getElem?_cons_succ, hl, hab, Tryz.results41]
theorem rSort_eq (l : List (List UInt8)) (hl : l.length ≤ 2 ^ 30) (hQ : ∀ x ∈ l, x.length ≤ 2 ^ 39) (σ : List (List AV)) : ev 48 [.sl .sh (l.map .str)] σ = some (.sl (.ex 9 1) ((isrt cmpB l).map .str), σ) := by
  have tp := TO.cmp.tp
  refine EV_post rfl Tryz.func48 rfl (by simp [Tryz.ntmps48]) (by kernel_rfl) (by kernel_rfl) ?_
  simp (maxSteps := 4000000) [List.getElem?_cons_zero, List.getElem?_cons_succ, ]
  refine Post_loop (I := fun k : Nat => ⟨[(0, .sl .sh (l.map .str)), (3, .sl (.ex 9 1) ((isrt cmpB (l.take k)).map .str)), (4, .int .i64 k)], [], σ⟩) (Pr := fun k => k ≤ l.length) (μ := fun k => l.length - k) (a := 0) (by simp [isrt]) (by simp) ?_
  intro k hk
  by_cases hc : k < l.length
  · obtain ⟨x, hx⟩ : ∃ z, l[k]? = some z := ⟨_, List.getElem?_eq_getElem hc⟩
    have hQx := hQ x (List.mem_of_getElem? hx)
    have hS : isrt cmpB (l.take (k + 1)) = mrg cmpB (isrt cmpB (l.take k)) [x] := by
      rw [List.take_add_one, hx]; exact isrt_snoc tp _ _
    have hSs := isrt_srt' tp (l.take k)
    have hSl : (isrt cmpB (l.take k)).length = k := by rw [isrt_len]; simp; omega
    have hSQ : ∀ y ∈ isrt cmpB (l.take k), y.length ≤ 2 ^ 39 := fun y hy => hQ y (List.mem_of_mem_take (isrt_mem.1 hy))
    generalize isrt cmpB (l.take k) = S at *
    simp (maxSteps := 4000000) [List.getElem?_cons_zero, List.getElem?_cons_succ, hc, hSl]
    refine Post_loop (I := fun u : Nat => ⟨[(0, .sl .sh (l.map .str)), (3, .sl (.ex 9 1) (S.map .str)), (4, .int .i64 k), (5, .int .i64 u)], [], σ⟩) (Pr := fun u => u ≤ k ∧ ∀ v ∈ S.drop u, cmpB x v < 0) (μ := fun u => u) (a := k) (by simp) (by simp [← hSl]) ?_
    rintro u ⟨hu, hV⟩
    have hfin : (∀ y, (S.take u).getLast? = some y → ¬ cmpB x y < 0) → isrt cmpB (l.take (k + 1)) = S.take u ++ x :: S.drop u := by
      intro hq
      rw [hS]
      have : S = S.take u ++ S.drop u := (List.take_append_drop u S).symm
      conv => lhs; rw [this]
      refine mrg_one (fun y hy => ?_) hV
      obtain ⟨i, hi, hy⟩ := mem_take_get hy
      obtain ⟨z, hz⟩ : ∃ z, S[u - 1]? = some z := ⟨_, List.getElem?_eq_getElem (by omega)⟩
      have h1 := hq z (by
        obtain ⟨w, rfl⟩ : ∃ w, u = w + 1 := ⟨u - 1, by omega⟩
        rw [List.take_add_one, show S[w]? = some z from hz]; simp)
      exact tp.nlt.2 (tp.trans _ _ _ (srt_get tp hSs (by omega) hy hz) (tp.nlt.1 h1))
    have w1 : IntKind.i64.wrap ((k : Int) + 1) = (k : Int) + 1 := wrap64 (by omega)
    have ku : u ≤ S.length := by omega
    cases u with
    | zero =>
      have hf := hfin (by simp)
      simp (maxSteps := 4000000) [List.getElem?_cons_zero, List.getElem?_cons_succ, -regionA_true]
      refine Post_bndD [] _ (by rfl) (by simp (maxSteps := 4000000) [List.getElem?_cons_zero, List.getElem?_cons_succ, ]; exact rfl) ?_
      repeat (first
        | refine PostD_go _ (by rfl) (by rfl) (by simp (maxSteps := 4000000) [List.getElem?_cons_zero, List.getElem?_cons_succ, ]; exact rfl) (by first | exact .inl rfl | exact .inr rfl) (by rfl) ?_
        | refine PostD_no (by rfl) (by rfl) ?_)
      refine PostD_end ?_
      simp (maxSteps := 4000000) [List.getElem?_cons_zero, List.getElem?_cons_succ, -getElem?_pos, hx, w1]
      repeat (rw [need_of]; rotate_left; (· (try unfold most); omega); simp (maxSteps := 4000000) [List.getElem?_cons_zero, List.getElem?_cons_succ, -getElem?_pos, hx, w1])
      exact ⟨k + 1, by omega, by omega, by rw [hf]; simp, by simp⟩
    | succ w =>
      obtain ⟨y, hy⟩ : ∃ y, S[w]? = some y := ⟨_, List.getElem?_eq_getElem (by omega)⟩
      have hQy := hSQ y (List.mem_of_getElem? hy)
      have hcmp := rCompare_eq y x hQy hQx
      have hfl := tp.flip y x
      have w2 : IntKind.i64.wrap ((w : Int) + 1 - 1) = (w : Int) := by rw [wrap64 (by omega)]; omega
      have p4 : w < S.length := by omega
      have p5 : (0 : Int) < (w : Int) + 1 := by omega
      obtain ⟨v, hv⟩ : ∃ v, w + 1 = v := ⟨_, rfl⟩
      have hv2 : (w : Int) + 1 = (v : Int) := by omega
      have w3 : IntKind.i64.wrap ((v : Int) - 1) = (w : Int) := by rw [wrap64 (by omega)]; omega
      have p6 : 0 < v := by omega
      have kv : v ≤ S.length := by omega
      simp (maxSteps := 4000000) [List.getElem?_cons_zero, List.getElem?_cons_succ, -regionA_true, hv2]
      refine Post_bndD [] _ (by rfl) (by simp (maxSteps := 4000000) [List.getElem?_cons_zero, List.getElem?_cons_succ, ]; exact rfl) ?_
      repeat (first
        | refine PostD_go _ (by rfl) (by rfl) (by simp (maxSteps := 4000000) [List.getElem?_cons_zero, List.getElem?_cons_succ, -getElem?_pos, hc, hx, hy, w3, p4, p6, hcmp]; exact rfl) (by first | exact .inl rfl | exact .inr rfl) (by rfl) ?_
        | refine PostD_no (by rfl) (by rfl) ?_)
      refine PostD_end ?_
      by_cases hlt : cmpB x y < 0
      · have hV2 : ∀ v ∈ S.drop w, cmpB x v < 0 := by
          have hd : S.drop w = y :: S.drop (w + 1) := by rw [List.drop_eq_getElem_cons (by omega)]; congr 1; exact (List.getElem?_eq_some_iff.1 hy).2
          rw [hd]
          intro v hv
          rcases List.mem_cons.1 hv with rfl | hv
          · exact hlt
          · exact hV v hv
        have hgt : 0 < cmpB y x := by omega
        simp (maxSteps := 4000000) [List.getElem?_cons_zero, List.getElem?_cons_succ, hgt, w3]
        exact ⟨by omega, hV2⟩
      · have hf := hfin (fun z hz => by
          have : (S.take (w + 1)).getLast? = some y := by rw [List.take_add_one, hy]; simp
          rw [this] at hz; injection hz with hz; subst hz; exact hlt)
        have hgt : ¬ 0 < cmpB y x := by omega
        rw [hv] at hf
        have hT : List.take v (S.map AV.str) = (S.take v).map .str := (List.map_take ..).symm
        have hD : List.drop v (S.map AV.str) = (S.drop v).map .str := (List.map_drop ..).symm
        have lT : (S.take v).length = v := by simp; omega
        have lD : (S.drop v).length = S.length - v := by simp
        clear hfin hV hlt hS
        generalize S.take v = A at *
        generalize S.drop v = B at *
        simp (maxSteps := 4000000) [List.getElem?_cons_zero, List.getElem?_cons_succ, -getElem?_pos, hgt, hx, w1, kv, hT, hD]
        repeat (rw [need_of]; rotate_left; (· (try unfold most); omega); simp (maxSteps := 4000000) [List.getElem?_cons_zero, List.getElem?_cons_succ, -getElem?_pos, hgt, hx, w1, kv, hT, hD])
        exact ⟨k + 1, by omega, by omega, by rw [hf]; simp, by simp⟩
  · have hk' : l.take k = l := List.take_of_length_le (by omega)
    rw [hk']
    simp (maxSteps := 4000000) [List.getElem?_cons_zero, List.getElem?_cons_succ, hc, Tryz.results48]
end Go.Proofs.Tryz.Ai
end
