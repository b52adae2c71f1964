/- Part 7 of a proof: a Go function is evaluated on abstract values (texts TL19 .. FGrows); no conditions beyond those of each theorem. -/
import Derived.Test.YtkbghmnjpfdclaaDoorAi6
import Derived.OpenShut
import Derived.Carry
import Derived.Deep.Slices
import Derived.ChangeOld
import Derived.Lib.LaidTab
import Derived.ChangeSame
import Derived.Deep.Strs
import Derived.Lib.SmallJoins
import Derived.Test.YtkbghmnjpfdclaaDoorRows
import Derived.Test.YtkbghmnjpfdclaaDoorCards
import Derived.Test.YtkbghmnjpfdclaaDoorTie
import Derived.WalkKit
import Derived.ProofKit
import Derived.Below
import Derived.Deep.DeepHandedRow
import Derived.Lay
import Derived.MakeChecks
set_option linter.all false
set_option linter.unusedVariables false
set_option linter.unusedSimpArgs false
set_option linter.unnecessarySimpa false
section
/- Proofs of a log hold: plain. -/
namespace Go.Proofs.Tryd.Ai
open Go Go.AI Go.Proofs
set_option maxHeartbeats 1000000
set_option linter.unusedVariables false

theorem halfN_eq {m n : Nat} (h1 : halfN n < m) (h2 : m ≤ n) (h : 2 ≤ n) : halfN m = halfN n := by
  have hs := halfN_spec h
  have hm := halfN_spec (n := m) (by omega)
  obtain ⟨a, ha⟩ := halfN_pow n
  obtain ⟨b, hb⟩ := halfN_pow m
  rw [ha] at hs h1 ⊢
  rw [hb] at hm ⊢
  have q1 : b < a + 1 := (Nat.pow_lt_pow_iff_right (a := 2) (by omega)).1 (by rw [Nat.pow_succ]; omega)
  have q2 : a < b + 1 := (Nat.pow_lt_pow_iff_right (a := 2) (by omega)).1 (by rw [Nat.pow_succ]; omega)
  have : b = a := by omega
  rw [this]
theorem last_app {α : Type} (d : α) (l : List α) (x : α) : (l ++ [x]).take ((l ++ [x]).length - 1) = l ∧ (l ++ [x]).getD ((l ++ [x]).length - 1) d = x := by
  constructor
  · simp
  · simp [List.getD_eq_getElem?_getD]
/-- the path of a record leads to the hash of all -/
theorem climb_span (L : Nat → List UInt8) (n : Nat) : ∀ i f, i < n → climbB nodeB ((pathN i f n).map (spanX L)) i n (L (f + i)) = spanT nodeB L f n := by
  induction n using Nat.strongRecOn with
  | _ n ih =>
    intro i f hi
    rw [climbB, spanT, pathN]
    by_cases h2 : 2 ≤ n
    · have hs := halfN_spec h2
      rw [dif_pos h2, dif_pos h2, dif_pos h2]
      by_cases hc : i < halfN n
      · rw [if_pos hc, if_pos hc, List.map_append]
        obtain ⟨e1, e2⟩ := last_app [] ((pathN i f (halfN n)).map (spanX L)) (spanX L (f + halfN n, n - halfN n))
        rw [show [(f + halfN n, n - halfN n)].map (spanX L) = [spanX L (f + halfN n, n - halfN n)] from rfl, e1, e2, ih _ hs.2.1 i f hc]
        rfl
      · rw [if_neg hc, if_neg hc, List.map_append]
        obtain ⟨e1, e2⟩ := last_app [] ((pathN (i - halfN n) (f + halfN n) (n - halfN n)).map (spanX L)) (spanX L (f, halfN n))
        have := ih (n - halfN n) (by omega) (i - halfN n) (f + halfN n) (by omega)
        rw [show f + halfN n + (i - halfN n) = f + i by omega] at this
        rw [show [(f, halfN n)].map (spanX L) = [spanX L (f, halfN n)] from rfl, e1, e2, this]
        rfl
    · rw [dif_neg h2, dif_neg h2]
      have : i = 0 := by omega
      rw [this, Nat.add_zero]
/-- the proof of a longer log leads to both hashes -/
theorem grow_span (L : Nat → List UInt8) (n : Nat) : ∀ m f w old, 0 < m → m ≤ n → (w = true → old = spanT nodeB L f m) → growB nodeB ((subN m f n w).map (spanX L)) m n w old = (spanT nodeB L f m, spanT nodeB L f n) := by
  induction n using Nat.strongRecOn with
  | _ n ih =>
    intro m f w old h0 hm ho
    rw [growB, subN]
    by_cases h2 : m < n ∧ 0 < m
    · have hn2 : 2 ≤ n := by omega
      have hs := halfN_spec hn2
      rw [dif_pos h2, dif_pos h2]
      by_cases hc : m ≤ halfN n
      · rw [if_pos hc, if_pos hc, List.map_append]
        obtain ⟨e1, e2⟩ := last_app [] ((subN m f (halfN n) w).map (spanX L)) (spanX L (f + halfN n, n - halfN n))
        rw [show [(f + halfN n, n - halfN n)].map (spanX L) = [spanX L (f + halfN n, n - halfN n)] from rfl, e1, e2, ih _ hs.2.1 m f w old h0 hc ho]
        rw [spanT.eq_def nodeB L f n, dif_pos hn2]
        rfl
      · rw [if_neg hc, if_neg hc, List.map_append]
        obtain ⟨e1, e2⟩ := last_app [] ((subN (m - halfN n) (f + halfN n) (n - halfN n) false).map (spanX L)) (spanX L (f, halfN n))
        rw [show [(f, halfN n)].map (spanX L) = [spanX L (f, halfN n)] from rfl, e1, e2, ih (n - halfN n) (by omega) (m - halfN n) (f + halfN n) false old (by omega) (by omega) (fun h => by cases h)]
        have em := halfN_eq (m := m) (n := n) (by omega) hm hn2
        rw [spanT.eq_def nodeB L f n, dif_pos hn2, spanT.eq_def nodeB L f m, dif_pos (by omega), em]
        rfl
    · rw [dif_neg h2, dif_neg h2]
      have : m = n := by omega
      subst this
      cases w with
      | true => rw [if_pos rfl, ho rfl]
      | false => simp [spanX]
theorem spanT_len32 (L : Nat → List UInt8) (n : Nat) : ∀ f, 1 ≤ n → (∀ i, i < n → (L (f + i)).length = 32) → (spanT nodeB L f n).length = 32 := by
  intro f h1 h
  rw [spanT]
  split
  · exact nodeB_len _ _
  · have := h 0 (by omega); simpa using this
theorem leafF_len32 (LB : List (List UInt8)) (h : ∀ x ∈ LB, x.length = 32) (i : Nat) (hi : i < LB.length) : (leafF LB i).length = 32 := by
  unfold leafF
  rw [List.getD_eq_getElem?_getD, List.getElem?_eq_getElem hi]
  exact h _ (List.getElem_mem hi)
section
variable {LB : List (List UInt8)}
theorem span32 (h : ∀ x ∈ LB, x.length = 32) {x : Nat × Nat} (hx : spanOk LB.length x) : (spanX (leafF LB) x).length = 32 :=
  spanT_len32 _ _ _ hx.1 fun i hi => leafF_len32 LB h _ (by have := hx.2.2; omega)
theorem spans32 (h : ∀ x ∈ LB, x.length = 32) {l : List (Nat × Nat)} (hl : ∀ x ∈ l, spanOk LB.length x) : ∀ y ∈ l.map (spanX (leafF LB)), y.length = 32 := fun y hy => by
  obtain ⟨x, hx, rfl⟩ := List.mem_map.1 hy
  exact span32 h (hl x hx)
theorem all32 {p : List (List UInt8)} (h : ∀ y ∈ p, y.length = 32) : p.all is32 = true := by
  rw [List.all_eq_true]; intro x hx; simp [is32, h x hx]
theorem root32 (h : ∀ x ∈ LB, x.length = 32) {n : Int} (h0 : 0 ≤ n) (hn : n ≤ LB.length) : (rootQ (leafF LB) n).1.length = 32 ∧ (rootQ (leafF LB) n).2 = 0 := by
  unfold rootQ
  rw [if_neg (by omega)]
  split
  · exact ⟨sha256_len _, rfl⟩
  · exact ⟨spanT_len32 _ _ _ (by omega) fun i hi => leafF_len32 LB h _ (by omega), rfl⟩
/-- what a log proves of a record holds -/
theorem rec_sound (h : ∀ x ∈ LB, x.length = 32) (hl : LB.length ≤ 1048576) (i n : Nat) (hi : i < n) (hn : n ≤ LB.length) :
    recB (proveQ (leafF LB) i n).1 i n (leafF LB i) (rootQ (leafF LB) n).1 = 0 ∧ (proveQ (leafF LB) i n).2 = 0 := by
  have e1 : proveQ (leafF LB) i n = ((pathN i 0 n).map (spanX (leafF LB)), 0) := by unfold proveQ; rw [if_pos (by omega)]; rfl
  have e2 : rootQ (leafF LB) n = (spanT nodeB (leafF LB) 0 n, 0) := by unfold rootQ; rw [if_neg (by omega), if_neg (by omega)]; rfl
  have hr := root32 h (n := n) (by omega) (by omega)
  rw [e2] at hr
  have hp := spans32 h (l := pathN i 0 n) (fun x hx => pathN_ok n i 0 _ (algn_zero n) (by omega) x hx)
  have hc := climb_span (leafF LB) n i 0 hi
  rw [Nat.zero_add] at hc
  rw [e1, e2]
  refine ⟨?_, rfl⟩
  unfold recB
  have g1 : is32 (leafF LB i) = true := by simp [is32, leafF_len32 LB h i (by omega)]
  have g2 : is32 (spanT nodeB (leafF LB) 0 n) = true := by simp [is32, hr.1]
  rw [if_neg (by omega), if_pos ⟨by simp [stepsN], all32 hp, g1, g2⟩]
  rw [if_pos (by simp only [Int.toNat_natCast]; rw [hc]; simp)]
/-- what a log proves of a longer one holds -/
theorem tree_sound (h : ∀ x ∈ LB, x.length = 32) (hl : LB.length ≤ 1048576) (m n : Nat) (hm : m ≤ n) (hn : n ≤ LB.length) :
    treeB (proveTQ (leafF LB) m n).1 m n (rootQ (leafF LB) m).1 (rootQ (leafF LB) n).1 = 0 ∧ (proveTQ (leafF LB) m n).2 = 0 := by
  have hcond : 0 ≤ (n : Int) ∧ 0 ≤ (m : Int) ∧ (m : Int) ≤ n := by omega
  by_cases h0 : m = 0
  · have e : proveTQ (leafF LB) m n = ([], 0) := by unfold proveTQ; rw [if_pos hcond, if_pos (.inl (by omega))]
    rw [e]
    unfold treeB
    rw [if_neg (by omega), if_pos (by omega)]; simp
  · by_cases h1 : m = n
    · have e : proveTQ (leafF LB) m n = ([], 0) := by unfold proveTQ; rw [if_pos hcond, if_pos (.inr (by omega))]
      rw [e]
      subst h1
      unfold treeB
      rw [if_neg (by omega), if_neg (by omega), if_pos rfl]; simp
    · have e : proveTQ (leafF LB) m n = ((subN m 0 n true).map (spanX (leafF LB)), 0) := by unfold proveTQ; rw [if_pos hcond, if_neg (by omega)]; rfl
      rw [e]
      refine ⟨?_, rfl⟩
      unfold treeB
      rw [if_neg (by omega), if_neg (by omega), if_neg (by omega)]
      have hr := root32 h (n := n) (by omega) (by omega)
      have hr' := root32 h (n := m) (by omega) (by omega)
      have e2 : rootQ (leafF LB) n = (spanT nodeB (leafF LB) 0 n, 0) := by unfold rootQ; rw [if_neg (by omega), if_neg (by omega)]; rfl
      have e3 : rootQ (leafF LB) m = (spanT nodeB (leafF LB) 0 m, 0) := by unfold rootQ; rw [if_neg (by omega), if_neg (by omega)]; rfl
      have hp := spans32 h (l := subN m 0 n true) (fun x hx => subN_ok n m 0 _ true (by omega) (algn_zero n) (by omega) x hx)
      have hg := grow_span (leafF LB) n m 0 true (spanT nodeB (leafF LB) 0 m) (by omega) hm (fun _ => rfl)
      rw [e2] at hr ⊢
      rw [e3] at hr' ⊢
      simp only [Int.toNat_natCast]
      have g1 : is32 (spanT nodeB (leafF LB) 0 m) = true := by simp [is32, hr'.1]
      have g2 : is32 (spanT nodeB (leafF LB) 0 n) = true := by simp [is32, hr.1]
      rw [if_pos ⟨by simp [subStepsN], all32 hp, g1, g2⟩, if_pos (by rw [hg]; simp)]
end
end Go.Proofs.Tryd.Ai
end
section
/- TlogGrows: the evaluation. -/
namespace Go.Proofs.Tryd.Ai
open Go Go.AI Go.Proofs
set_option maxHeartbeats 4000000
set_option linter.unusedVariables false

theorem mod_in (i : Int) (n : Nat) (h : 0 < n) (hn : n ≤ 2 ^ 30) : ∃ k : Nat, k < n ∧ (IntKind.i64.wrap (i.tmod n + n)).tmod n = (k : Int) := by
  have h1 := Int.tmod_lt_of_pos i (b := n) (by omega)
  have h2 : -(n : Int) < i.tmod n := by
    have := Int.tmod_lt_of_pos (-i) (b := n) (by omega)
    rw [Int.neg_tmod] at this; omega
  rw [wrap64 (by omega), Int.tmod_eq_emod_of_nonneg (by omega)]
  have h3 := Int.emod_nonneg (i.tmod n + n) (b := n) (by omega)
  have h4 := Int.emod_lt_of_pos (i.tmod n + n) (b := n) (by omega)
  exact ⟨((i.tmod n + n) % n).toNat, by omega, by omega⟩
/-- roots and proofs of the first records are told by these alone -/
theorem rootQ_app (A B : List (List UInt8)) (n : Int) (h : n ≤ A.length) : rootQ (leafF (A ++ B)) n = rootQ (leafF A) n := by
  unfold rootQ
  split
  · rfl
  · split
    · rfl
    · congr 1
      exact spanT_congr _ _ _ (by omega) fun i hi => by
        unfold leafF
        rw [List.getD_eq_getElem?_getD, List.getD_eq_getElem?_getD, List.getElem?_append_left (by omega)]
theorem proveQ_app (A B : List (List UInt8)) (i n : Int) (h : n ≤ A.length) : proveQ (leafF (A ++ B)) i n = proveQ (leafF A) i n := by
  unfold proveQ
  split
  · congr 1
    refine List.map_congr_left fun x hx => ?_
    have := pathN_ok n.toNat i.toNat 0 A.length (algn_zero _) (by omega) x hx
    exact spanT_congr _ _ _ this.1 fun j hj => by
      have := this.2.2
      unfold leafF
      rw [List.getD_eq_getElem?_getD, List.getD_eq_getElem?_getD, List.getElem?_append_left (by omega)]
  · rfl
theorem growsLaw_eq (l l2 : List (List UInt8)) (i : Int) (h : l.length ≤ 1048576 ∧ ∀ s ∈ l, s.length ≤ 1048576) (h' : l2.length ≤ 1048576 ∧ ∀ s ∈ l2, s.length ≤ 1048576) (σ0 : List (List AV)) : ev 8 [.sl .sh (hs l), .sl .sh (hs l2), .int .i64 i] [] = some (.bool true, []) := by
  obtain ⟨σ, hσ⟩ : ∃ σ : List (List AV), σ = [] := ⟨_, rfl⟩
  rw [← hσ]
  have hF := first_eq
  obtain ⟨b, hfew, hb⟩ := few_eq l (by omega) (fun x hx => by have := h.2 x hx; omega) σ
  obtain ⟨b2, hfew2, hb2⟩ := few_eq l2 (by omega) (fun x hx => by have := h'.2 x hx; omega) σ
  have w0 : IntKind.i64.wrap ((l.length : Int) + l2.length) = ((l.length + l2.length : Nat) : Int) := by rw [wrap64 (by omega)]; omega
  obtain ⟨N, hN⟩ : ∃ N, l.length + l2.length = N := ⟨_, rfl⟩
  rw [hN] at w0
  have hHl : (hs l).length = l.length := by simp [hs]
  have hHl2 : (hs l2).length = l2.length := by simp [hs]
  refine EV_post rfl Tryd.func8 rfl (by simp [Tryd.ntmps8]) (by kernel_rfl) (by kernel_rfl) ?_
  cases b with
  | false =>
    generalize hs l = H at *
    generalize hs l2 = H2 at *
    simp (maxSteps := 4000000) [List.getElem?_cons_zero, List.getElem?_cons_succ, hF, hfew, Tryd.results8]
  | true =>
    cases b2 with
    | false =>
      generalize hs l = H at *
      generalize hs l2 = H2 at *
      simp (maxSteps := 4000000) [List.getElem?_cons_zero, List.getElem?_cons_succ, hF, hfew, hfew2, Tryd.results8]
    | true =>
      by_cases hc : N ≤ 70
      · by_cases hz : l.length = 0
        · have w00 : IntKind.i64.wrap (l2.length : Int) = l2.length := wrap64 (by omega)
          have hc0 : l2.length ≤ 70 := by omega
          generalize hs l = H at *
          generalize hs l2 = H2 at *
          simp (maxSteps := 4000000) [List.getElem?_cons_zero, List.getElem?_cons_succ, hF, hfew, hfew2, hHl, hHl2, w0, w00, hc, hc0, hz, Tryd.results8]
        · obtain ⟨s, p, q, hM, hlog, hpre, hlen, hp, hq⟩ := made_of l (by omega) (fun x hx => by have := h.2 x hx; omega) σ
          obtain ⟨s2, p2, q2, hM2, hlog2, hpre2, hlen2, hp2, hq2⟩ := made_of (l ++ l2) (by simp; omega) (fun x hx => (List.mem_append.1 hx).elim (fun hx => by have := h.2 x hx; omega) (fun hx => by have := h'.2 x hx; omega)) s
          have e0 : (l ++ l2).map leafB = l.map leafB ++ l2.map leafB := List.map_append
          rw [e0] at hM2 hlog2
          obtain ⟨LB, hLB⟩ : ∃ LB, l.map leafB = LB := ⟨_, rfl⟩
          obtain ⟨LC, hLC⟩ : ∃ LC, l2.map leafB = LC := ⟨_, rfl⟩
          rw [hLB] at hM hlog
          rw [hLB, hLC] at hM2 hlog2
          have hLBl : LB.length = l.length := by rw [← hLB]; simp
          have hLCl : LC.length = l2.length := by rw [← hLC]; simp
          have hlogA : LogOf s2 p q LB := hlog.keep (hpre2 p hlog.at'.plt) (hpre2 q hlog.at'.qlt)
          obtain ⟨k, hk, hkm⟩ := mod_in i l.length (by omega) (by omega)
          have x1 := hlogA.root l.length
          have x2 := hlog2.root l.length
          have x3 := hlogA.prove k l.length
          have x4 := hlog2.prove k l.length
          have x5 := hlog2.proveT l.length N
          have x6 := hlog2.root N
          have hAl : (LB ++ LC).length = N := by simp; omega
          have e1 : lrootQ LB l.length = rootQ (leafF LB) l.length := by unfold lrootQ; rw [if_neg (by omega)]
          have e2 : lrootQ (LB ++ LC) l.length = rootQ (leafF LB) l.length := by unfold lrootQ; rw [if_neg (by omega), rootQ_app LB LC _ (by omega)]
          have e3 : lproveQ LB k l.length = proveQ (leafF LB) k l.length := by unfold lproveQ; rw [if_neg (by omega)]
          have e4 : lproveQ (LB ++ LC) k l.length = proveQ (leafF LB) k l.length := by unfold lproveQ; rw [if_neg (by omega), proveQ_app LB LC _ _ (by omega)]
          have e5 : lproveTQ (LB ++ LC) l.length N = proveTQ (leafF (LB ++ LC)) l.length N := by unfold lproveTQ; rw [if_neg (by omega)]
          have e6 : lrootQ (LB ++ LC) N = rootQ (leafF (LB ++ LC)) N := by unfold lrootQ; rw [if_neg (by omega)]
          rw [e1] at x1; rw [e2] at x2; rw [e3] at x3; rw [e4] at x4; rw [e5] at x5; rw [e6] at x6
          obtain ⟨t1, t2⟩ := tree_sound hlog2.small (by omega) l.length N (by omega) (by omega)
          rw [rootQ_app LB LC _ (by omega)] at t1
          have hL : ∀ i, (leafF LB i).length ≤ 2 ^ 27 := fun i => by have := hlog.leaf i; omega
          have hL2 : ∀ i, (leafF (LB ++ LC) i).length ≤ 2 ^ 27 := fun i => by have := hlog2.leaf i; omega
          have n1 := rootQ_len (leafF LB) hL l.length
          have n2 := proveQ_len (leafF LB) hL k l.length (by omega)
          have n3 := proveTQ_len (leafF (LB ++ LC)) hL2 l.length N (by omega)
          have n4 := rootQ_len (leafF (LB ++ LC)) hL2 N
          obtain ⟨R1, hR1⟩ : ∃ R, rootQ (leafF LB) l.length = R := ⟨_, rfl⟩
          obtain ⟨R2, hR2⟩ : ∃ R, proveQ (leafF LB) k l.length = R := ⟨_, rfl⟩
          obtain ⟨R3, hR3⟩ : ∃ R, proveTQ (leafF (LB ++ LC)) l.length N = R := ⟨_, rfl⟩
          obtain ⟨R4, hR4⟩ : ∃ R, rootQ (leafF (LB ++ LC)) N = R := ⟨_, rfl⟩
          rw [hR1] at x1 x2 t1 n1
          rw [hR2] at x3 x4 n2
          rw [hR3] at x5 t1 t2 n3
          rw [hR4] at x6 t1 n4
          have y1 := SameBytes_eq .sh .sh R1.1 R1.1 (by omega)
          have y2 := SameLists_eq R2.1 R2.1 (by omega) (fun x hx => by have := n2.2 x hx; omega)
          have hC := CheckTree_eq R3.1 l.length N R1.1 R4.1 (by omega) n3.2 n1 n4
          rw [t1] at hC
          have hNum := Num_eq
          have hNum0 : ∀ σ, ev 13 [.int .i64 0] σ = some (.int .i64 0, σ) := fun σ => hNum 0 σ
          have e00 : hs (l ++ l2) = hs l ++ hs l2 := List.map_append
          rw [e00] at hM2
          have q1 : l.length ≤ most := by unfold most; omega
          have q2 : N ≤ most := by unfold most; omega
          simp only [logP] at hM hM2 x1 x2 x3 x4 x5 x6
          have a1 : allCells 1 (hs l) := fun x hx => by obtain ⟨y, _, rfl⟩ := List.mem_map.1 hx; exact ⟨rfl, fun c hc => by simp [AV.cells] at hc; subst hc; rfl⟩
          have a2 : allCells 1 (hs l ++ hs l2) := fun x hx => (List.mem_append.1 hx).elim (fun hx => a1 x hx) (fun hx => by obtain ⟨y, _, rfl⟩ := List.mem_map.1 hx; exact ⟨rfl, fun c hc => by simp [AV.cells] at hc; subst hc; rfl⟩)
          have a3 : allCells 1 (hs l2) := fun x hx => a2 x (List.mem_append_right _ hx)
          generalize hs l = H at *
          generalize hs l2 = H2 at *
          generalize hs R2.1 = G2 at *
          generalize hs R3.1 = G3 at *
          simp (maxSteps := 4000000) [List.getElem?_cons_zero, List.getElem?_cons_succ, hF, hfew, hfew2, hHl, hHl2, hN, w0, hc, hz, hM, hM2, log_eql, hkm, q1, q2, x1, x2, x3, x4, x5, x6, y1, y2, t2, hC, hNum, hNum0, a1, a2, a3, Tryd.results8]
          rw [need_of (by subst hσ; intro b hb; simp at hb)]; subst hσ; simp
      · generalize hs l = H at *
        generalize hs l2 = H2 at *
        simp (maxSteps := 4000000) [List.getElem?_cons_zero, List.getElem?_cons_succ, hF, hfew, hfew2, hHl, hHl2, w0, hc, Tryd.results8]
end Go.Proofs.Tryd.Ai
end
section
/- A statement's arguments, as the evaluation holds them. No program is in sight. -/
namespace Go.AI
open Go.RowKit Go.ChangeShapes
set_option linter.unusedVariables false

theorem plain_addr {w : World} {a : Addr} {v : Value} (h : w.cell? a = some v) : ∃ b off, a = ⟨b, off, none⟩ := by
  obtain ⟨b, off, s⟩ := a
  cases s with
  | none => exact ⟨b, off, rfl⟩
  | some s =>
    simp only [World.cell?] at h
    split at h <;> simp at h

section
variable {H : Type} {enc : TypeId × Value → H} {P : Program} {W : World} {t e : TypeId} {α : Type}

/-- what is read at a type is a value of α, held as R says; Q: what of the datum -/
structure Reads (enc : TypeId × Value → H) (P : Program) (W : World) (t : TypeId) {α : Type} (R : α → AV) (Q : α → DataW H → Prop) : Prop where
  cells : ∀ a, (R a).cells.length = P.cellsOf t ∧ (∀ c ∈ (R a).cells, plain c = true)
  pos : 0 < P.cellsOf t
  rd : ∀ fuel cs x, DataW.trod enc P W 0 (fun _ => true) true fuel t cs = some x → ∃ a, Q a x.1 ∧ cs.length = P.cellsOf t ∧ ∀ j c, (R a).cells[j]? = some c → Rep W.heap.size gh0 W (cs.getD j undef) c

theorem one_cell {v : Value} {c : AV} (h : Rep W.heap.size gh0 W v c) : ∀ j c', [c][j]? = some c' → Rep W.heap.size gh0 W ([v].getD j undef) c' := by
  intro j c' e
  cases j with
  | zero => simp at e; subst e; exact h
  | succ j => simp at e

theorem Reads.int {k : IntKind} (ht : P.underlying t = some (.int k)) (hc : P.cellsOf t = 1) : Reads enc P W t (fun n : Int => AV.int k n) (fun n d => d = .lit (.int k n) ∧ (Lit.int k n).wf = true) := by
  refine ⟨fun a => ⟨by rw [hc]; rfl, fun c h => by simp [AV.cells] at h; subst h; rfl⟩, by omega, fun fuel cs x h => ?_⟩
  obtain ⟨n, rfl, rfl, hw⟩ := DataW.trod_int ht h
  exact ⟨n, ⟨rfl, hw⟩, by simp [hc], one_cell (.int k n)⟩
theorem Reads.u8 (ht : P.underlying t = some (.int .u8)) (hc : P.cellsOf t = 1) : Reads enc P W t AV.u8 (fun n d => d = .lit (.int .u8 n.toNat)) := by
  refine ⟨fun a => ⟨by rw [hc]; rfl, fun c h => by simp [AV.cells, AV.u8] at h; subst h; rfl⟩, by omega, fun fuel cs x h => ?_⟩
  obtain ⟨n, rfl, rfl, hw⟩ := DataW.trod_int ht h
  have hb := bounds_u8 hw
  obtain ⟨m, rfl⟩ := Int.eq_ofNat_of_zero_le hb.1
  have hm : (UInt8.ofNat m).toNat = m := by simp only [UInt8.toNat_ofNat']; omega
  exact ⟨UInt8.ofNat m, by rw [hm], by simp [hc], one_cell (by rw [AV.u8, hm]; exact .int _ _)⟩
theorem Reads.bool (ht : P.underlying t = some .bool) (hc : P.cellsOf t = 1) : Reads enc P W t AV.bool (fun b d => d = .lit (.bool b)) := by
  refine ⟨fun a => ⟨by rw [hc]; rfl, fun c h => by simp [AV.cells] at h; subst h; rfl⟩, by omega, fun fuel cs x h => ?_⟩
  cases fuel with
  | zero => simp [DataW.trod] at h
  | succ n =>
    unfold DataW.trod at h
    rw [ht] at h
    split at h
    all_goals first
      | (rename_i b _; injection h with h; subst h; exact ⟨b, rfl, by simp [hc], one_cell (.bool _)⟩)
      | (simp at *; done)
theorem Reads.str (ht : P.underlying t = some .string) (hc : P.cellsOf t = 1) : Reads enc P W t AV.str (fun s d => d = .lit (.string s) ∧ s.length ≤ maxLen) := by
  refine ⟨fun a => ⟨by rw [hc]; rfl, fun c h => by simp [AV.cells] at h; subst h; rfl⟩, by omega, fun fuel cs x h => ?_⟩
  obtain ⟨s, rfl, rfl, hw⟩ := DataW.trod_string ht h
  exact ⟨s.data.toList, ⟨rfl, by simpa using hw⟩, by simp [hc], one_cell (.str s)⟩

theorem cells_get {w : World} {a : Addr} {n : Nat} {cs : List Value} (h : w.cells? 0 a n = some cs) : cs.length = n ∧ ∀ j, j < n → w.cell? (a.add j) = some (cs.getD j undef) := by
  unfold World.cells? at h
  rw [if_pos (Nat.zero_le _)] at h
  have hl := mapM_some_length h
  refine ⟨by simpa using hl, fun j hj => ?_⟩
  have h1 := mapM_some_get h j j (by simp [hj])
  have hlt : j < cs.length := by rw [hl]; simpa using hj
  rw [h1, List.getElem?_eq_getElem hlt]
  simp [List.getD, List.getElem?_eq_getElem hlt]

theorem flat_at {α : Type} {R : α → AV} (l : List α) (i j : Nat) (c : AV) (h : ((l.map R)[i]?.bind fun e => e.cells[j]?) = some c) : ∃ a, l[i]? = some a ∧ (R a).cells[j]? = some c := by
  rw [List.getElem?_map] at h
  cases hx : l[i]? with
  | none => rw [hx] at h; cases h
  | some a => rw [hx] at h; exact ⟨a, rfl, h⟩
theorem choose_list {α : Type} {Q : Nat → α → Prop} (n : Nat) (h : ∀ i, i < n → ∃ z, Q i z) : ∃ l : List α, l.length = n ∧ ∀ (i : Nat) (z : α), l[i]? = some z → Q i z := by
  induction n with
  | zero => exact ⟨[], rfl, fun i z e => by simp at e⟩
  | succ n ih =>
    obtain ⟨l, hl, hq⟩ := ih fun i hi => h i (by omega)
    obtain ⟨z, hz⟩ := h n (by omega)
    refine ⟨l ++ [z], by simp [hl], fun i y e => ?_⟩
    rw [List.getElem?_append] at e
    split at e
    · exact hq i y e
    · rename_i hi
      have : i = n := by
        rcases Nat.lt_or_ge (i - l.length) 1 with q | q
        · omega
        · rw [List.getElem?_eq_none (by simpa using q)] at e; cases e
      subst this
      simp [hl] at e; subst e; exact hz

/-- a slice's datum, by its elements' -/
def slQ {α : Type} (Q : α → DataW H → Prop) (l : List α) (d : DataW H) : Prop :=
  (l = [] ∧ d = .nil) ∨ ∃ ds rest, d = .slice ds rest ∧ l.length = ds.length ∧ l.length ≤ maxLen ∧ ∀ (i : Nat) (a : α) (x : DataW H), l[i]? = some a → ds[i]? = some x → Q a x

theorem Reads.slice {R : α → AV} {Q : α → DataW H → Prop} (h : Reads enc P W e R Q) (ht : P.underlying t = some (.slice e)) (hc : P.cellsOf t = 1) : Reads enc P W t (fun l : List α => AV.sl .sh (l.map R)) (slQ Q) := by
  refine ⟨fun a => ⟨by rw [hc]; rfl, fun c q => by simp [AV.cells] at q; subst q; rfl⟩, by omega, fun fuel cs x hx => ?_⟩
  rcases Go.Deep.open_slice ht hx with ⟨rfl, rfl⟩ | ⟨a, len, cap, m, n, D, Pl, rfl, hb, hl, hm, hm2, rfl, hel⟩
  · exact ⟨[], .inl ⟨rfl, rfl⟩, by simp [hc], one_cell (.slnil _)⟩
  · simp only [if_true] at hm2
    subst hm2
    obtain ⟨l, hl2, hq⟩ := choose_list (Q := fun i (z : α) => Q z (D i) ∧ ∀ j, j < P.cellsOf e → ∃ v, W.cell? ((a.add (i * P.cellsOf e)).add j) = some v ∧ ∀ c, (R z).cells[j]? = some c → Rep W.heap.size gh0 W v c) len (by
      intro i hi
      obtain ⟨cs', h1, h2⟩ := hel i (by omega)
      obtain ⟨z, h3, h4, h5⟩ := h.rd _ _ _ h2
      obtain ⟨h6, h7⟩ := cells_get h1
      exact ⟨z, h3, fun j hj => ⟨_, h7 j hj, fun c hc => h5 j c hc⟩⟩)
    subst hl2
    refine ⟨l, .inr ⟨_, _, rfl, by simp, by omega, fun i z x h1 h2 => ?_⟩, by simp [hc], one_cell ?_⟩
    · have hi : i < l.length := (List.getElem?_eq_some_iff.1 h1).1
      rw [List.getElem?_map, List.getElem?_range hi] at h2
      simp at h2; subst h2
      exact (hq i z h1).1
    · by_cases h0 : l = []
      · subst h0; exact   .sl0 a m .sh (by simp) hm
      · have hpos := h.pos
        have hlen : 0 < l.length := List.length_pos_iff.2 h0
        obtain ⟨z0, hz0⟩ : ∃ z, l[0]? = some z := ⟨_, List.getElem?_eq_getElem hlen⟩
        obtain ⟨v0, hv0, _⟩ := (hq 0 z0 hz0).2 0 hpos
        have hadd : ∀ (a : Addr) (i : Nat) b off, a = ⟨b, off, none⟩ → a.add i = ⟨b, off + i, none⟩ := fun a i b off q => by subst q; unfold Addr.add; split <;> simp_all
        obtain ⟨b, off, rfl⟩ : ∃ b off, a = ⟨b, off, none⟩ := by
          obtain ⟨b, off, s⟩ := a
          cases s with
          | none => exact ⟨b, off, rfl⟩
          | some s =>
            obtain ⟨b', off', q⟩ := plain_addr hv0
            simp [Addr.add] at q
        have hrl : (l.map R).length = l.length := by simp
        rw [← hrl]
        rw [hadd _ _ b off rfl, hadd _ _ b _ rfl] at hv0
        have hblk : b < W.heap.size := World.block_lt_of_cell? W _ hv0
        have hall : ∀ k, k < l.length * P.cellsOf e → ∃ z v, l[k / P.cellsOf e]? = some z ∧ W.cell? ⟨b, off + k, none⟩ = some v ∧ ∀ c, (R z).cells[k % P.cellsOf e]? = some c → Rep W.heap.size gh0 W v c := by
          intro k hk
          have hki : k / P.cellsOf e < l.length := (Nat.div_lt_iff_lt_mul hpos).2 hk
          obtain ⟨z, hz⟩ : ∃ z, l[k / P.cellsOf e]? = some z := ⟨_, List.getElem?_eq_getElem hki⟩
          obtain ⟨v, hv, hr⟩ := (hq _ z hz).2 (k % P.cellsOf e) (Nat.mod_lt _ hpos)
          have : (Addr.add (Addr.add ⟨b, off, none⟩ (k / P.cellsOf e * P.cellsOf e)) (k % P.cellsOf e)) = ⟨b, off + k, none⟩ := by
            rw [hadd _ _ b off rfl, hadd _ _ b _ rfl]
            have := Nat.div_add_mod k (P.cellsOf e)
            rw [Nat.mul_comm] at this
            rw [Nat.add_assoc, this]
          rw [this] at hv
          exact ⟨z, v, hz, hv, hr⟩
        refine .sl b off m (P.cellsOf e) .sh (l.map R) (fun k => (W.cell? ⟨b, off + k, none⟩).getD undef) (by simp) hpos (by simpa using hl) hm ?_ ?_ ?_
        · intro x hx
          obtain ⟨z, _, rfl⟩ := List.mem_map.1 hx
          exact h.cells z
        · intro k hk
          obtain ⟨z, v, h1, h2, h3⟩ := hall k (by simpa using hk)
          exact ⟨by rw [h2]; rfl, .inl hblk⟩
        · intro i j c hc'
          obtain ⟨z, hz, hzc⟩ := flat_at l i j c hc'
          have hi : i < l.length := (List.getElem?_eq_some_iff.1 hz).1
          have hj : j < P.cellsOf e := by rw [← (h.cells z).1]; exact (List.getElem?_eq_some_iff.1 hzc).1
          obtain ⟨z', v, h1, h2, h3⟩ := hall (i * P.cellsOf e + j) (by
            have : (i + 1) * P.cellsOf e ≤ l.length * P.cellsOf e := Nat.mul_le_mul_right _ hi
            rw [Nat.add_mul] at this; omega)
          have e1 : (i * P.cellsOf e + j) / P.cellsOf e = i := by rw [Nat.mul_comm, Nat.mul_add_div hpos, Nat.div_eq_of_lt hj]; rfl
          have e2 : (i * P.cellsOf e + j) % P.cellsOf e = j := by rw [Nat.mul_comm, Nat.mul_add_mod, Nat.mod_eq_of_lt hj]
          rw [e1, hz] at h1; injection h1 with h1; subst h1
          rw [e2] at h3
          simp only [h2, Option.getD_some]
          exact h3 c hzc

def oneT (d : Option TypeDesc) : Bool := match d with
  | some (.int _) => true
  | some .string => true
  | some .bool => true
  | some (.slice _) => true
  | _ => false
theorem val_one {r : Reach} {b0 : Nat} {v : Value} (hk : oneT (P.underlying t) = true) (h : Value.okWide P W r b0 t v) : v.cells = #[v] := by
  unfold Value.okWide at h
  cases hd : P.underlying t with
  | none => rw [hd] at hk; cases hk
  | some d =>
    rw [hd] at hk h
    cases d <;> simp only [oneT, Bool.false_eq_true] at hk
    all_goals
      simp only at h
      unfold Cell.okWide at h
      rw [hd] at h
      try unfold Cell.ok at h
      try rw [hd] at h
      cases v <;> first | rfl | (simp at h)

theorem Reads.arg1 {R : α → AV} {Q : α → DataW H → Prop} (h : Reads enc P W t R Q) (hR : ∀ a, (R a).cells = [R a]) (hk : oneT (P.underlying t) = true) {r : Reach} {b0 : Nat} {v : Value} {d : DataW H} {p : List MemPlace}
    (hv : Value.okWide P W r b0 t v) (ht : DataW.Trod enc P W 0 (fun _ => true) true t v d p) : ∃ a, Q a d ∧ Rep W.heap.size gh0 W v (R a) ∧ pers (R a) = true ∧ quiet (R a) = true := by
  obtain ⟨fuel, hf⟩ := ht
  rw [val_one hk hv] at hf
  obtain ⟨a, h1, h2, h3⟩ := h.rd _ _ _ hf
  have h4 := (h.cells a).2 (R a) (by rw [hR]; simp)
  simp only [plain, Bool.and_eq_true] at h4
  refine ⟨a, h1, by have := h3 0 (R a) (by rw [hR]; rfl); simpa using this, ?_, h4.2⟩
  have h5 := h4.1
  cases hq : R a <;> rw [hq] at h5 <;> first | rfl | simp [cell1] at h5
theorem Reads.argS {R : α → AV} {Q : α → DataW H → Prop} (h : Reads enc P W t R Q) (hR : ∀ a, ∃ cs, R a = .agg cs) {fs : Array Field} (hk : P.underlying t = some (.struct fs)) {r : Reach} {b0 : Nat} {v : Value} {d : DataW H} {p : List MemPlace}
    (hv : Value.okWide P W r b0 t v) (ht : DataW.Trod enc P W 0 (fun _ => true) true t v d p) : ∃ a, Q a d ∧ Rep W.heap.size gh0 W v (R a) ∧ pers (R a) = true ∧ quiet (R a) = true := by
  obtain ⟨fuel, hf⟩ := ht
  unfold Value.okWide at hv
  rw [hk] at hv
  obtain ⟨vs, rfl, _, _⟩ := hv
  obtain ⟨a, h1, h2, h3⟩ := h.rd _ _ _ hf
  obtain ⟨cs, hcs⟩ := hR a
  have h4 := h.cells a
  rw [hcs] at h4 h3
  simp only [Value.cells, AV.cells] at h2 h3 h4
  refine ⟨a, h1, ?_⟩
  rw [hcs]
  refine ⟨.agg vs cs (by rw [h4.1, ← h2]; simp) h4.2 fun j c hc => ?_, rfl, rfl⟩
  have := h3 j c hc
  simpa [Array.getD_eq_getD_getElem?, List.getD] using this
/-- behind the call the arguments read as they did -/
theorem trodAll_keep (hl : laidOutB P = true) {W' : World} (hb : Below W.heap.size W W') : ∀ {ts : List TypeId} {vs : List Value} {ds : List (DataW H)} {ps : List MemPlace}, (∀ t ∈ ts, P.readableRec t = true ∧ t < P.types.size) →
    DataW.TrodAll enc P W 0 (fun _ => true) true ts vs ds ps → (∀ x ∈ ps, x.block < W.heap.size) → DataW.TrodAll enc P W' 0 (fun b => decide (b < W.heap.size)) true ts vs ds ps
  | [], [], [], ps, _, h, _ => h
  | t :: ts, [], [], ps, _, h, _ => by simp [DataW.TrodAll] at h
  | [], v :: vs, [], ps, _, h, _ => by simp [DataW.TrodAll] at h
  | [], [], d :: ds, ps, _, h, _ => by simp [DataW.TrodAll] at h
  | t :: ts, v :: vs, [], ps, _, h, _ => by simp [DataW.TrodAll] at h
  | t :: ts, [], d :: ds, ps, _, h, _ => by simp [DataW.TrodAll] at h
  | [], v :: vs, d :: ds, ps, _, h, _ => by simp [DataW.TrodAll] at h
  | t :: ts, v :: vs, d :: ds, ps, ht, h, hp => by
    obtain ⟨p, q, h1, h2, rfl⟩ := h
    refine ⟨p, q, Below.trod hl (ht t (by simp)).1 (ht t (by simp)).2 h1 hb fun x hx => hp x (List.mem_append_left _ hx), ?_, rfl⟩
    exact trodAll_keep hl hb (fun t h => ht t (List.mem_cons_of_mem _ h)) h2 fun x hx => hp x (List.mem_append_right _ hx)
theorem laidVars_mem {w : World} : ∀ {laid : List (String × DataW Unit)} {ps : List MemPlace} {n : String} {d : DataW Unit}, DataW.LaidVars P w laid ps → (n, d) ∈ laid →
    ∃ g t cs fuel p, P.globalNamed n = some g ∧ (P.globals[g]?).map (·.type) = some t ∧ w.var? P n = some cs ∧ DataW.trod (fun _ => ()) P w 0 (fun _ => true) false fuel t cs.toList = some (d, p)
  | [], _, _, _, _, hm => by cases hm
  | x :: r, ps, n, d, h, hm => by
    obtain ⟨g, t, cs, fuel, p, q, h1, h2, h3, h4, h5, _⟩ := h
    rcases List.mem_cons.1 hm with e | hm
    · subst e; exact ⟨g, t, cs, fuel, p, h1, h2, h3, h4⟩
    · exact laidVars_mem h5 hm
theorem tabIs_of_mem {name : String} {k : IntKind} {zs : List Int} {laid : List (String × DataW Unit)} {g : Nat} {n : Nat} (hm : (name, Lib.tabData k zs) ∈ laid)
    (hg : P.globalNamed name = some g) (hty : (P.globals[g]?).map (·.type) = some t) (ht : P.underlying t = some (.array n e)) (he : P.underlying e = some (.int k)) (hce : P.cellsOf e = 1) (hct : P.cellsOf t = n)
    (h : laidMet P laid W) : Lib.TabIs P W name k zs := by
  obtain ⟨ps, hl, _⟩ := h
  obtain ⟨g', t', cs, fuel, p, hg', ht', hvar, hd⟩ := laidVars_mem hl hm
  obtain rfl := Option.some.inj (hg.symm.trans hg')
  obtain rfl := Option.some.inj (hty.symm.trans ht')
  unfold Lib.TabIs
  rw [hvar, ← Lib.cells_of_tab ht he hce hct hd]
end
end Go.AI
end
section
/- A statement's arguments, as the evaluation holds them: structs. No program is in sight. -/
namespace Go.AI
open Go.RowKit Go.ChangeShapes Go.Deep Go.Joins
set_option linter.unusedVariables false
section
variable {H : Type} {enc : TypeId × Value → H} {P : Program} {W : World} {t e : TypeId}

theorem cells_sub {W : World} {cs : List Value} {off n : Nat} {l : List AV} (h : ∀ (j : Nat) (c : AV), l[j]? = some c → Rep W.heap.size gh0 W (((cs.drop off).take n).getD j undef) c) (hl : l.length ≤ n) :
    ∀ (j : Nat) (c : AV), l[j]? = some c → Rep W.heap.size gh0 W (cs.getD (off + j) undef) c := by
  intro j c hc
  have := h j c hc
  have hj : j < n := Nat.lt_of_lt_of_le (List.getElem?_eq_some_iff.1 hc).1 hl
  simpa [List.getD, List.getElem?_take, hj, List.getElem?_drop] using this
def st2R {α β : Type} (R0 : α → AV) (R1 : β → AV) (x : α × β) : AV := .agg ((R0 x.1).cells ++ (R1 x.2).cells)
def st2Q {α β : Type} (Q0 : α → DataW H → Prop) (Q1 : β → DataW H → Prop) (x : α × β) (d : DataW H) : Prop := ∃ d0 d1, d = .agg [d0, d1] ∧ Q0 x.1 d0 ∧ Q1 x.2 d1
theorem Reads.struct2 {α β : Type} {R0 : α → AV} {Q0 : α → DataW H → Prop} {R1 : β → AV} {Q1 : β → DataW H → Prop} {f0 f1 : Field} (h0 : Reads enc P W f0.type R0 Q0) (h1 : Reads enc P W f1.type R1 Q1)
    (ht : P.underlying t = some (.struct #[f0, f1])) (o0 : f0.offset = 0) (o1 : f1.offset = P.cellsOf f0.type) (hc : P.cellsOf t = P.cellsOf f0.type + P.cellsOf f1.type) :
    Reads enc P W t (st2R R0 R1) (st2Q Q0 Q1) := by
  refine ⟨fun x => ⟨?_, ?_⟩, by have := h0.pos; omega, fun fuel cs x hx => ?_⟩
  · show ((R0 x.1).cells ++ (R1 x.2).cells).length = P.cellsOf t
    simp only [List.length_append]
    rw [(h0.cells x.1).1, (h1.cells x.2).1, hc]
  · intro c hq
    replace hq : c ∈ (R0 x.1).cells ++ (R1 x.2).cells := hq
    simp only [List.mem_append] at hq
    rcases hq with hq | hq
    · exact (h0.cells x.1).2 c hq
    · exact (h1.cells x.2).2 c hq
  · obtain ⟨y0, y1, n, rfl, hl, t0, t1⟩ := trod_struct2 ht hx
    obtain ⟨a0, q0, l0, r0⟩ := h0.rd _ _ _ t0
    obtain ⟨a1, q1, l1, r1⟩ := h1.rd _ _ _ t1
    have s0 := cells_sub r0 (Nat.le_of_eq (h0.cells a0).1)
    have s1 := cells_sub r1 (Nat.le_of_eq (h1.cells a1).1)
    refine ⟨(a0, a1), ⟨_, _, rfl, q0, q1⟩, hl, fun j c hj => ?_⟩
    replace hj : ((R0 a0).cells ++ ((R1 a1).cells))[j]? = some c := by simpa [st2R, AV.cells] using hj
    rw [List.getElem?_append] at hj
    split at hj
    · have := s0 _ c hj
      rw [o0] at this
      have e : 0 + (j) = j := by have := (h0.cells a0).1; have := (h1.cells a1).1; omega
      rwa [e] at this
    · rename_i hn0
      have := s1 _ c hj
      rw [o1] at this
      have e : (P.cellsOf f0.type) + (j - (R0 a0).cells.length) = j := by have := (h0.cells a0).1; have := (h1.cells a1).1; omega
      rwa [e] at this
def st3R {α β γ : Type} (R0 : α → AV) (R1 : β → AV) (R2 : γ → AV) (x : α × β × γ) : AV := .agg ((R0 x.1).cells ++ (R1 x.2.1).cells ++ (R2 x.2.2).cells)
def st3Q {α β γ : Type} (Q0 : α → DataW H → Prop) (Q1 : β → DataW H → Prop) (Q2 : γ → DataW H → Prop) (x : α × β × γ) (d : DataW H) : Prop := ∃ d0 d1 d2, d = .agg [d0, d1, d2] ∧ Q0 x.1 d0 ∧ Q1 x.2.1 d1 ∧ Q2 x.2.2 d2
theorem Reads.struct3 {α β γ : Type} {R0 : α → AV} {Q0 : α → DataW H → Prop} {R1 : β → AV} {Q1 : β → DataW H → Prop} {R2 : γ → AV} {Q2 : γ → DataW H → Prop} {f0 f1 f2 : Field} (h0 : Reads enc P W f0.type R0 Q0) (h1 : Reads enc P W f1.type R1 Q1) (h2 : Reads enc P W f2.type R2 Q2)
    (ht : P.underlying t = some (.struct #[f0, f1, f2])) (o0 : f0.offset = 0) (o1 : f1.offset = P.cellsOf f0.type) (o2 : f2.offset = P.cellsOf f0.type + P.cellsOf f1.type) (hc : P.cellsOf t = P.cellsOf f0.type + P.cellsOf f1.type + P.cellsOf f2.type) :
    Reads enc P W t (st3R R0 R1 R2) (st3Q Q0 Q1 Q2) := by
  refine ⟨fun x => ⟨?_, ?_⟩, by have := h0.pos; omega, fun fuel cs x hx => ?_⟩
  · show ((R0 x.1).cells ++ (R1 x.2.1).cells ++ (R2 x.2.2).cells).length = P.cellsOf t
    simp only [List.length_append]
    rw [(h0.cells x.1).1, (h1.cells x.2.1).1, (h2.cells x.2.2).1, hc]
  · intro c hq
    replace hq : c ∈ (R0 x.1).cells ++ (R1 x.2.1).cells ++ (R2 x.2.2).cells := hq
    simp only [List.mem_append] at hq
    rcases hq with (hq | hq) | hq
    · exact (h0.cells x.1).2 c hq
    · exact (h1.cells x.2.1).2 c hq
    · exact (h2.cells x.2.2).2 c hq
  · obtain ⟨y0, y1, y2, n, rfl, hl, t0, t1, t2⟩ := trod_struct3 ht hx
    obtain ⟨a0, q0, l0, r0⟩ := h0.rd _ _ _ t0
    obtain ⟨a1, q1, l1, r1⟩ := h1.rd _ _ _ t1
    obtain ⟨a2, q2, l2, r2⟩ := h2.rd _ _ _ t2
    have s0 := cells_sub r0 (Nat.le_of_eq (h0.cells a0).1)
    have s1 := cells_sub r1 (Nat.le_of_eq (h1.cells a1).1)
    have s2 := cells_sub r2 (Nat.le_of_eq (h2.cells a2).1)
    refine ⟨(a0, a1, a2), ⟨_, _, _, rfl, q0, q1, q2⟩, hl, fun j c hj => ?_⟩
    replace hj : ((R0 a0).cells ++ ((R1 a1).cells ++ ((R2 a2).cells)))[j]? = some c := by simpa [st3R, AV.cells] using hj
    rw [List.getElem?_append] at hj
    split at hj
    · have := s0 _ c hj
      rw [o0] at this
      have e : 0 + (j) = j := by have := (h0.cells a0).1; have := (h1.cells a1).1; have := (h2.cells a2).1; omega
      rwa [e] at this
    · rename_i hn0
      rw [List.getElem?_append] at hj
      split at hj
      · have := s1 _ c hj
        rw [o1] at this
        have e : (P.cellsOf f0.type) + (j - (R0 a0).cells.length) = j := by have := (h0.cells a0).1; have := (h1.cells a1).1; have := (h2.cells a2).1; omega
        rwa [e] at this
      · rename_i hn1
        have := s2 _ c hj
        rw [o2] at this
        have e : (P.cellsOf f0.type + P.cellsOf f1.type) + (j - (R0 a0).cells.length - (R1 a1).cells.length) = j := by have := (h0.cells a0).1; have := (h1.cells a1).1; have := (h2.cells a2).1; omega
        rwa [e] at this
def st4R {α β γ δ : Type} (R0 : α → AV) (R1 : β → AV) (R2 : γ → AV) (R3 : δ → AV) (x : α × β × γ × δ) : AV := .agg ((R0 x.1).cells ++ (R1 x.2.1).cells ++ (R2 x.2.2.1).cells ++ (R3 x.2.2.2).cells)
def st4Q {α β γ δ : Type} (Q0 : α → DataW H → Prop) (Q1 : β → DataW H → Prop) (Q2 : γ → DataW H → Prop) (Q3 : δ → DataW H → Prop) (x : α × β × γ × δ) (d : DataW H) : Prop := ∃ d0 d1 d2 d3, d = .agg [d0, d1, d2, d3] ∧ Q0 x.1 d0 ∧ Q1 x.2.1 d1 ∧ Q2 x.2.2.1 d2 ∧ Q3 x.2.2.2 d3
theorem Reads.struct4 {α β γ δ : Type} {R0 : α → AV} {Q0 : α → DataW H → Prop} {R1 : β → AV} {Q1 : β → DataW H → Prop} {R2 : γ → AV} {Q2 : γ → DataW H → Prop} {R3 : δ → AV} {Q3 : δ → DataW H → Prop} {f0 f1 f2 f3 : Field} (h0 : Reads enc P W f0.type R0 Q0) (h1 : Reads enc P W f1.type R1 Q1) (h2 : Reads enc P W f2.type R2 Q2) (h3 : Reads enc P W f3.type R3 Q3)
    (ht : P.underlying t = some (.struct #[f0, f1, f2, f3])) (o0 : f0.offset = 0) (o1 : f1.offset = P.cellsOf f0.type) (o2 : f2.offset = P.cellsOf f0.type + P.cellsOf f1.type) (o3 : f3.offset = P.cellsOf f0.type + P.cellsOf f1.type + P.cellsOf f2.type) (hc : P.cellsOf t = P.cellsOf f0.type + P.cellsOf f1.type + P.cellsOf f2.type + P.cellsOf f3.type) :
    Reads enc P W t (st4R R0 R1 R2 R3) (st4Q Q0 Q1 Q2 Q3) := by
  refine ⟨fun x => ⟨?_, ?_⟩, by have := h0.pos; omega, fun fuel cs x hx => ?_⟩
  · show ((R0 x.1).cells ++ (R1 x.2.1).cells ++ (R2 x.2.2.1).cells ++ (R3 x.2.2.2).cells).length = P.cellsOf t
    simp only [List.length_append]
    rw [(h0.cells x.1).1, (h1.cells x.2.1).1, (h2.cells x.2.2.1).1, (h3.cells x.2.2.2).1, hc]
  · intro c hq
    replace hq : c ∈ (R0 x.1).cells ++ (R1 x.2.1).cells ++ (R2 x.2.2.1).cells ++ (R3 x.2.2.2).cells := hq
    simp only [List.mem_append] at hq
    rcases hq with ((hq | hq) | hq) | hq
    · exact (h0.cells x.1).2 c hq
    · exact (h1.cells x.2.1).2 c hq
    · exact (h2.cells x.2.2.1).2 c hq
    · exact (h3.cells x.2.2.2).2 c hq
  · obtain ⟨y0, y1, y2, y3, n, rfl, hl, t0, t1, t2, t3⟩ := trod_struct4 ht hx
    obtain ⟨a0, q0, l0, r0⟩ := h0.rd _ _ _ t0
    obtain ⟨a1, q1, l1, r1⟩ := h1.rd _ _ _ t1
    obtain ⟨a2, q2, l2, r2⟩ := h2.rd _ _ _ t2
    obtain ⟨a3, q3, l3, r3⟩ := h3.rd _ _ _ t3
    have s0 := cells_sub r0 (Nat.le_of_eq (h0.cells a0).1)
    have s1 := cells_sub r1 (Nat.le_of_eq (h1.cells a1).1)
    have s2 := cells_sub r2 (Nat.le_of_eq (h2.cells a2).1)
    have s3 := cells_sub r3 (Nat.le_of_eq (h3.cells a3).1)
    refine ⟨(a0, a1, a2, a3), ⟨_, _, _, _, rfl, q0, q1, q2, q3⟩, hl, fun j c hj => ?_⟩
    replace hj : ((R0 a0).cells ++ ((R1 a1).cells ++ ((R2 a2).cells ++ ((R3 a3).cells))))[j]? = some c := by simpa [st4R, AV.cells] using hj
    rw [List.getElem?_append] at hj
    split at hj
    · have := s0 _ c hj
      rw [o0] at this
      have e : 0 + (j) = j := by have := (h0.cells a0).1; have := (h1.cells a1).1; have := (h2.cells a2).1; have := (h3.cells a3).1; omega
      rwa [e] at this
    · rename_i hn0
      rw [List.getElem?_append] at hj
      split at hj
      · have := s1 _ c hj
        rw [o1] at this
        have e : (P.cellsOf f0.type) + (j - (R0 a0).cells.length) = j := by have := (h0.cells a0).1; have := (h1.cells a1).1; have := (h2.cells a2).1; have := (h3.cells a3).1; omega
        rwa [e] at this
      · rename_i hn1
        rw [List.getElem?_append] at hj
        split at hj
        · have := s2 _ c hj
          rw [o2] at this
          have e : (P.cellsOf f0.type + P.cellsOf f1.type) + (j - (R0 a0).cells.length - (R1 a1).cells.length) = j := by have := (h0.cells a0).1; have := (h1.cells a1).1; have := (h2.cells a2).1; have := (h3.cells a3).1; omega
          rwa [e] at this
        · rename_i hn2
          have := s3 _ c hj
          rw [o3] at this
          have e : (P.cellsOf f0.type + P.cellsOf f1.type + P.cellsOf f2.type) + (j - (R0 a0).cells.length - (R1 a1).cells.length - (R2 a2).cells.length) = j := by have := (h0.cells a0).1; have := (h1.cells a1).1; have := (h2.cells a2).1; have := (h3.cells a3).1; omega
          rwa [e] at this
end
end Go.AI
end
section
/- The bulk of what came in. -/
namespace Go.Proofs.YtkbghmnjpfdclaaDoor
open Go Go.AI
set_option linter.unusedVariables false
section
variable {H : Type}
theorem bulk_pos (d : DataW H) : 1 ≤ Rows.uptoBulk d := by
  cases d with
  | lit l => cases l <;> simp [Rows.uptoBulk]
  | _ => simp [Rows.uptoBulk]
theorem bulk_all (ds : List (DataW H)) : ds.length ≤ Rows.uptoBulkAll ds ∧ ∀ d ∈ ds, Rows.uptoBulk d ≤ Rows.uptoBulkAll ds := by
  induction ds with
  | nil => simp
  | cons d r ih =>
    have := bulk_pos d
    simp only [Rows.uptoBulkAll, List.length_cons, List.mem_cons]
    refine ⟨by omega, ?_⟩
    rintro x (rfl | hx)
    · omega
    · have := ih.2 x hx; omega
theorem small_str {s : List UInt8} {d : DataW H} (h : d = .lit (.string s) ∧ s.length ≤ maxLen) : s.length ≤ Rows.uptoBulk d := by
  rw [h.1]; simp [Rows.uptoBulk]
theorem slq_small {α : Type} {Q : α → DataW H → Prop} {f : α → Nat} {l : List α} {d : DataW H} (h : slQ Q l d) (hf : ∀ a x, Q a x → f a ≤ Rows.uptoBulk x) : l.length ≤ Rows.uptoBulk d ∧ ∀ a ∈ l, f a ≤ Rows.uptoBulk d := by
  rcases h with ⟨rfl, rfl⟩ | ⟨ds, rest, rfl, hl, _, hq⟩
  · simp
  · simp only [Rows.uptoBulk]
    have := bulk_all ds
    refine ⟨by omega, fun a ha => ?_⟩
    obtain ⟨i, hi⟩ := List.mem_iff_getElem?.1 ha
    have hlt := (List.getElem?_eq_some_iff.1 hi).1
    obtain ⟨x, hx⟩ : ∃ x, ds[i]? = some x := ⟨_, List.getElem?_eq_getElem (by omega)⟩
    have h1 := hf a x (hq i a x hi hx)
    have h2 := this.2 x (List.mem_of_getElem? hx)
    omega
theorem small_mod {m : List UInt8 × List UInt8} {d : DataW H} (h : st2Q (fun s d => d = .lit (.string s) ∧ s.length ≤ maxLen) (fun s d => d = .lit (.string s) ∧ s.length ≤ maxLen) m d) : m.1.length + m.2.length ≤ Rows.uptoBulk d := by
  obtain ⟨d0, d1, rfl, q0, q1⟩ := h
  have := small_str q0
  have := small_str q1
  simp only [Rows.uptoBulk, Rows.uptoBulkAll]; omega
end
end Go.Proofs.YtkbghmnjpfdclaaDoor
end
section
/- The frame of TlogGrows: from the evaluation to the given statement. -/
namespace Go.Proofs.YtkbghmnjpfdclaaDoor.tlogGrows
open Go Go.AI Go.ChangeShapes Go.WideShapes Go.ChangeAt Go.RowKit
set_option linter.unusedVariables false

theorem own : ownKnob Tryd.prog.godebug = none := by kernel_rfl
theorem mixed : Tryd.prog.follows .mixedOrders = true := by kernel_rfl
theorem laidOut : laidOutB Tryd.prog = true := by kernel_rfl

theorem walk (a0 : List (List UInt8)) (a1 : List (List UInt8)) (a2 : Int) (v0 v1 v2 : Value) (W : World) (hl : Go.Proofs.Tryd.Ai.Laid W) (r0 : Rep W.heap.size gh0 W v0 (.sl .sh (a0.map fun l => .sl .sh (l.map .u8)))) (r1 : Rep W.heap.size gh0 W v1 (.sl .sh (a1.map fun l => .sl .sh (l.map .u8)))) (r2 : Rep W.heap.size gh0 W v2 (.int .i64 a2))
    (he : Go.Proofs.Tryd.Ai.ev 8 [.sl .sh (a0.map fun l => .sl .sh (l.map .u8)), .sl .sh (a1.map fun l => .sl .sh (l.map .u8)), .int .i64 a2] [] = some (.bool true, [])) :
    Calls Tryd.prog 8 #[v0, v1, v2] W fun e w' => e = .returned (.bool true) ∧ Below W.heap.size W w' :=
  Go.AI.top (s' := []) mixed rfl (Go.Proofs.Tryd.Ai.T_ok hl) (by rfl)
    (fun j c h => by
      match j, h with
      | 0, h => simp at h; subst h; exact ⟨r0, rfl, rfl⟩
      | 1, h => simp at h; subst h; exact ⟨r1, rfl, rfl⟩
      | 2, h => simp at h; subst h; exact ⟨r2, rfl, rfl⟩
      | j + 3, h => simp at h)
    he

/-- the table of powers, as the row lays it -/
theorem laid_of {W : World} (hL : laidMet Tryd.prog Rows.tlogGrowsUptoRow.laid W) : Go.Proofs.Tryd.Ai.Laid W :=
  tabIs_of_mem (g := 1) (t := 168) (e := 121) (n := 20) (by
    have : ("internal/strconv.uint64pow10", Rows.laid_internal_strconv_uint64pow10) ∈ Rows.tlogGrowsUptoRow.laid := by simp [Rows.tlogGrowsUptoRow]
    have e : (Rows.laid_internal_strconv_uint64pow10 : DataW Unit) = Lib.tabData .u64 Lib.pow10Tab := by kernel_rfl
    rw [e] at this; exact this) (by kernel_rfl) (by kernel_rfl) Tryd.underlying168 Tryd.underlying121 (by kernel_rfl) (by kernel_rfl) hL

theorem readable : ∀ t ∈ Tryd.f8.params.toList, Tryd.prog.readableRec t = true ∧ t < Tryd.prog.types.size := by
  rw [Tryd.params8]
  intro t ht
  simp only [List.mem_cons, List.mem_nil_iff, or_false] at ht
  rcases ht with rfl | rfl | rfl <;> exact ⟨by kernel_rfl, of_decide_eq_true (by kernel_rfl)⟩

set_option maxRecDepth 100000 in
theorem contract (H : Type) (enc : TypeId × Value → H) (W : World) (base : Nat) (args : Array Value) (ds gs : List (DataW H)) (before : List MemPlace)
    (hval : ∀ (j : Nat) t v, Tryd.f8.params[j]? = some t → args[j]? = some v → Value.okWide Tryd.prog W .any base t v)
    (hW : DataW.Whole enc Tryd.prog Tryd.f8.params.toList Rows.tlogGrowsSpec.vars false W args.toList ds gs before) (hcond : ∀ k, (Rows.OpenSpec.upto Rows.tlogGrowsSpec).cond = some k → k H (ds ++ gs) = true) (hl : Go.Proofs.Tryd.Ai.Laid W) :
    Calls Tryd.prog 8 args W fun e W' => ∃ v, e = .returned v ∧ Rows.tlogGrowsSpec.post enc Tryd.prog Tryd.f8 false true false false W args v W' := by
  have hW' := hW
  obtain ⟨p, q, hA0, hV, rfl, hfz, hnd⟩ := hW
  have hA : DataW.TrodAll enc Tryd.prog W 0 (fun _ => true) true Tryd.f8.params.toList args.toList ds p := hA0
  have hAk := hA
  rw [Tryd.params8] at hA hval
  obtain ⟨v0, vs0, d0, ds0, p0, q0, hargs0, rfl, rfl, h0, r0⟩ := trodAll_cons hA
  obtain ⟨v1, vs1, d1, ds1, p1, q1, hargs1, rfl, rfl, h1, r1⟩ := trodAll_cons r0
  obtain ⟨v2, vs2, d2, ds2, p2, q2, hargs2, rfl, rfl, h2, r2⟩ := trodAll_cons r1
  obtain ⟨e1, e2, e3⟩ := trodAll_nil r2
  obtain rfl : args = #[v0, v1, v2] := by cases args; simp_all
  subst e2 e3
  obtain ⟨rfl, rfl⟩ := trodVars_none hV
  obtain ⟨a0, Q0, R0, _⟩ := (Reads.slice (Reads.slice (Reads.u8 Tryd.underlying5 (by kernel_rfl)) Tryd.underlying36 (by kernel_rfl)) Tryd.underlying31 (by kernel_rfl)).arg1 (enc := enc) (W := W) (fun _ => rfl) (by kernel_rfl) (hval 0 31 v0 rfl rfl) h0
  obtain ⟨a1, Q1, R1, _⟩ := (Reads.slice (Reads.slice (Reads.u8 Tryd.underlying5 (by kernel_rfl)) Tryd.underlying36 (by kernel_rfl)) Tryd.underlying31 (by kernel_rfl)).arg1 (enc := enc) (W := W) (fun _ => rfl) (by kernel_rfl) (hval 1 31 v1 rfl rfl) h1
  obtain ⟨a2, Q2, R2, _⟩ := (Reads.int Tryd.underlying3 (by kernel_rfl)).arg1 (enc := enc) (W := W) (fun _ => rfl) (by kernel_rfl) (hval 2 3 v2 rfl rfl) h2
  have hb : Rows.uptoBulkAll ([d0, d1, d2] ++ []) ≤ 1048576 := of_decide_eq_true (hcond _ rfl)
  simp only [List.append_nil, Rows.uptoBulkAll] at hb
  have s0 : a0.length ≤ 1048576 ∧ ∀ s ∈ a0, s.length ≤ 1048576 := by have := slq_small (f := List.length) Q0 (fun a x h => (slq_small (f := fun _ => 0) h (fun a x h => Nat.zero_le _)).1); exact ⟨by omega, fun s hs => by have := this.2 s hs; omega⟩
  have s1 : a1.length ≤ 1048576 ∧ ∀ s ∈ a1, s.length ≤ 1048576 := by have := slq_small (f := List.length) Q1 (fun a x h => (slq_small (f := fun _ => 0) h (fun a x h => Nat.zero_le _)).1); exact ⟨by omega, fun s hs => by have := this.2 s hs; omega⟩
  have hlt : ∀ x ∈ (p0 ++ p1 ++ p2 : List MemPlace), True := fun _ _ => trivial
  refine (walk a0 a1 a2 v0 v1 v2 W hl R0 R1 R2 (by have := Go.Proofs.Tryd.Ai.growsLaw_eq a0 a1 a2 s0 s1 []; exact this)).mono fun e W' ⟨he, bel⟩ => ?_
  subst he
  exact ⟨_, rfl, _, _, _, [], _, [], hW', trodAll_mk1 (shut_bool Tryd.underlying4 _), trodAll_keep laidOut bel readable hAk (fun x hx => by simpa using hW'.lt x (by simpa using hx)), rfl, bel.frame _, fun h => by cases h⟩

noncomputable def laidWorld (os : Os) : World := World.laidAll Tryd.prog os Rows.tlogGrowsUptoRow.laid
theorem laid_met (os : Os) : laidMet Tryd.prog Rows.tlogGrowsUptoRow.laid ((laidWorld os).forCall (fun _ _ => 0) ⟨#[], #[.slice none 0 0, .slice none 0 0, .int .i64 0], []⟩).memory :=
  laidMet_laidAll _ (by kernel_rfl) (by kernel_rfl)
theorem reads (os : Os) {H : Type} (enc : TypeId × Value → H) : ∃ places, DataW.whole enc Tryd.prog ((laidWorld os).forCall (fun _ _ => 0) ⟨#[], #[.slice none 0 0, .slice none 0 0, .int .i64 0], []⟩).memory Tryd.f8.params.toList Rows.tlogGrowsSpec.vars false (#[.slice none 0 0, .slice none 0 0, .int .i64 0] : Array Value).toList 8 = some ([.nil, .nil, .lit (.int .i64 0)], [], places) :=
  ⟨[], by kernel_rfl⟩
theorem witness (os : Os) {H : Type} (enc : TypeId × Value → H) : ∃ (w : World) (tape : Tape) (i : Input), w.os = os ∧ (w.forCall tape i).Shaped Tryd.checked.prog ∧ i.vars = [] ∧ Input.okWide Tryd.checked.prog (w.forCall tape i) .any w.heap.size 8 i ∧
    (Rows.OpenSpec.upto Rows.tlogGrowsSpec).preRow enc Tryd.checked.prog Tryd.f8 Rows.tlogGrowsUptoRow.domain false Rows.tlogGrowsUptoRow.laid (w.forCall tape i).memory i.args ∧ ({} : Assume).holds Tryd.checked.prog (lone (Frame.enter Tryd.checked.prog 8 i.args .normal) [] (w.forCall tape i)) := by
  obtain ⟨places, hx⟩ := reads os enc
  have hok : Input.okWideB Tryd.checked.prog ((laidWorld os).forCall (fun _ _ => 0) ⟨#[], #[.slice none 0 0, .slice none 0 0, .int .i64 0], []⟩) 8 ⟨#[], #[.slice none 0 0, .slice none 0 0, .int .i64 0], []⟩ = true := by kernel_rfl
  exact ⟨laidWorld os, fun _ _ => 0, ⟨#[], #[.slice none 0 0, .slice none 0 0, .int .i64 0], []⟩, World.laidAll_os _ _ _, World.shaped_of_ZipB (by kernel_rfl) (by kernel_rfl), (Input.okWide_of_okWideB (base := 0) hok).1, (Input.okWide_of_okWideB hok).2,
    OpenSpec.preRow_of_cond 8 hx (by kernel_rfl) (fun k hk => by have e : k = Rows.uptoSmall := (Option.some.inj (show some Rows.uptoSmall = some k from hk)).symm; rw [e]; simp [Rows.uptoSmall, Rows.uptoBulkAll, Rows.uptoBulk]) (by kernel_rfl) (laid_met os), by
    simp only [Assume.holds]
    exact ⟨by simp, by simp, fun _ => Modest.zero, by simp, by simp⟩⟩

set_option maxRecDepth 100000 in
theorem lifted (os : Os) (started : os.Started) (H : Type) (enc : TypeId × Value → H) (F : Stop.Interp) :
    ReturnsInHanded {} Tryd.checked os 8 .any ((Rows.OpenSpec.upto Rows.tlogGrowsSpec).preRow enc Tryd.prog Tryd.f8 Rows.tlogGrowsUptoRow.domain false Rows.tlogGrowsUptoRow.laid) (((Rows.OpenSpec.upto Rows.tlogGrowsSpec).at F).post enc Tryd.prog Tryd.f8 false true false false) := by
  refine returnsInHanded_of_row (C := Tryd.checked) (s := (Rows.OpenSpec.upto Rows.tlogGrowsSpec)) own started (by kernel_rfl) Tryd.func8 (witness os enc) ?_
  intro W base args ds gs before hval hW _ hcond _ hL _ _
  exact contract H enc W base args ds gs before hval hW hcond (laid_of (by rw [← MakeChecks.laidMetH_plain _ _ _ (by kernel_rfl)]; exact hL))

theorem said : Rows.TlogGrowsUptoSaid :=
  OpenClaim.holds_of_cond 8 Tryd.f8 rfl rfl rfl rfl rfl rfl rfl ⟨rfl, rfl, rfl, rfl, rfl⟩ rfl rfl rfl rfl rfl (by kernel_rfl) Tryd.func8 (by kernel_rfl)
    (of_decide_eq_true (by kernel_rfl)) (by unfold Func.isWrapper; first | (rw [if_pos (by decide +kernel)]; kernel_rfl) | (rw [if_neg (by decide +kernel)]; exact ⟨rfl, rfl⟩))
    (fun os started H enc _ F => by rw [OpenClaim.pre_eq_preRow]; exact lifted os started H enc F)

theorem plain (f : FuncId) (fn : Func) (hf : Tryd.pinned.checked.prog.funcNamed "mews/mewslaw7.TlogGrows" = some f) (hfn : Tryd.pinned.checked.prog.funcs[f]? = some fn) :
    true = Tryd.pinned.checked.prog.looks [] ∧ ∀ (j : Nat) t, fn.params[j]? = some t → Tryd.pinned.checked.prog.wantsStandIn t = false := by
  obtain rfl : f = 8 := Option.some.inj ((show Tryd.prog.funcNamed "mews/mewslaw7.TlogGrows" = some 8 by kernel_rfl).symm.trans hf) |>.symm
  obtain rfl : fn = Tryd.f8 := (Option.some.inj (Tryd.func8.symm.trans hfn)).symm
  refine ⟨by kernel_rfl, fun j t ht => ?_⟩
  have hm : t ∈ Tryd.f8.params.toList := Array.mem_toList_iff.2 (Array.mem_of_getElem? ht)
  rw [Tryd.params8] at hm
  simp only [List.mem_cons, List.mem_nil_iff, or_false] at hm
  rcases hm with rfl | rfl | rfl
  · exact (show Tryd.prog.wantsStandIn 31 = false by kernel_rfl)
  · exact (show Tryd.prog.wantsStandIn 31 = false by kernel_rfl)
  · exact (show Tryd.prog.wantsStandIn 3 = false by kernel_rfl)

/-- the card -/
theorem card : Rows.TlogGrowsUptoCardSaid :=
  Claim7.holds_tied_plain_at .later [] _ _ _ _ said (fun _ h => by cases h) (by kernel_rfl) (fun _ h => by cases h) tlogGrowsUpto_row_tie rfl ⟨rfl, rfl⟩ (by kernel_rfl) rfl plain (by kernel_rfl)
end Go.Proofs.YtkbghmnjpfdclaaDoor.tlogGrows
end
