/- Part 7 of a proof: a Go function is evaluated on abstract values (texts TL19 .. FProves); no conditions beyond those of each theorem. -/
import Derived.Test.YtkbghmnjpfdclaaDoorAi6
import Derived.OpenShut
import Derived.Carry
import Derived.Deep.Slices
import Derived.ChangeOld
import Derived.Lib.LaidTab
import Derived.ChangeSame
import Derived.Deep.Strs
import Derived.Lib.SmallJoins
import Derived.Test.YtkbghmnjpfdclaaDoorRows
import Derived.Test.YtkbghmnjpfdclaaDoorCards
import Derived.Test.YtkbghmnjpfdclaaDoorTie
import Derived.WalkKit
import Derived.ProofKit
import Derived.Below
import Derived.Deep.DeepHandedRow
import Derived.Lay
import Derived.MakeChecks
set_option linter.all false
set_option linter.unusedVariables false
set_option linter.unusedSimpArgs false
set_option linter.unnecessarySimpa false
section
/- Proofs of a log hold: plain. -/
namespace Go.Proofs.Tryd.Ai
open Go Go.AI Go.Proofs
set_option maxHeartbeats 1000000
set_option linter.unusedVariables false

theorem halfN_eq {m n : Nat} (h1 : halfN n < m) (h2 : m ≤ n) (h : 2 ≤ n) : halfN m = halfN n := by
  have hs := halfN_spec h
  have hm := halfN_spec (n := m) (by omega)
  obtain ⟨a, ha⟩ := halfN_pow n
  obtain ⟨b, hb⟩ := halfN_pow m
  rw [ha] at hs h1 ⊢
  rw [hb] at hm ⊢
  have q1 : b < a + 1 := (Nat.pow_lt_pow_iff_right (a := 2) (by omega)).1 (by rw [Nat.pow_succ]; omega)
  have q2 : a < b + 1 := (Nat.pow_lt_pow_iff_right (a := 2) (by omega)).1 (by rw [Nat.pow_succ]; omega)
  have : b = a := by omega
  rw [this]
theorem last_app {α : Type} (d : α) (l : List α) (x : α) : (l ++ [x]).take ((l ++ [x]).length - 1) = l ∧ (l ++ [x]).getD ((l ++ [x]).length - 1) d = x := by
  constructor
  · simp
  · simp [List.getD_eq_getElem?_getD]
/-- the path of a record leads to the hash of all -/
theorem climb_span (L : Nat → List UInt8) (n : Nat) : ∀ i f, i < n → climbB nodeB ((pathN i f n).map (spanX L)) i n (L (f + i)) = spanT nodeB L f n := by
  induction n using Nat.strongRecOn with
  | _ n ih =>
    intro i f hi
    rw [climbB, spanT, pathN]
    by_cases h2 : 2 ≤ n
    · have hs := halfN_spec h2
      rw [dif_pos h2, dif_pos h2, dif_pos h2]
      by_cases hc : i < halfN n
      · rw [if_pos hc, if_pos hc, List.map_append]
        obtain ⟨e1, e2⟩ := last_app [] ((pathN i f (halfN n)).map (spanX L)) (spanX L (f + halfN n, n - halfN n))
        rw [show [(f + halfN n, n - halfN n)].map (spanX L) = [spanX L (f + halfN n, n - halfN n)] from rfl, e1, e2, ih _ hs.2.1 i f hc]
        rfl
      · rw [if_neg hc, if_neg hc, List.map_append]
        obtain ⟨e1, e2⟩ := last_app [] ((pathN (i - halfN n) (f + halfN n) (n - halfN n)).map (spanX L)) (spanX L (f, halfN n))
        have := ih (n - halfN n) (by omega) (i - halfN n) (f + halfN n) (by omega)
        rw [show f + halfN n + (i - halfN n) = f + i by omega] at this
        rw [show [(f, halfN n)].map (spanX L) = [spanX L (f, halfN n)] from rfl, e1, e2, this]
        rfl
    · rw [dif_neg h2, dif_neg h2]
      have : i = 0 := by omega
      rw [this, Nat.add_zero]
/-- the proof of a longer log leads to both hashes -/
theorem grow_span (L : Nat → List UInt8) (n : Nat) : ∀ m f w old, 0 < m → m ≤ n → (w = true → old = spanT nodeB L f m) → growB nodeB ((subN m f n w).map (spanX L)) m n w old = (spanT nodeB L f m, spanT nodeB L f n) := by
  induction n using Nat.strongRecOn with
  | _ n ih =>
    intro m f w old h0 hm ho
    rw [growB, subN]
    by_cases h2 : m < n ∧ 0 < m
    · have hn2 : 2 ≤ n := by omega
      have hs := halfN_spec hn2
      rw [dif_pos h2, dif_pos h2]
      by_cases hc : m ≤ halfN n
      · rw [if_pos hc, if_pos hc, List.map_append]
        obtain ⟨e1, e2⟩ := last_app [] ((subN m f (halfN n) w).map (spanX L)) (spanX L (f + halfN n, n - halfN n))
        rw [show [(f + halfN n, n - halfN n)].map (spanX L) = [spanX L (f + halfN n, n - halfN n)] from rfl, e1, e2, ih _ hs.2.1 m f w old h0 hc ho]
        rw [spanT.eq_def nodeB L f n, dif_pos hn2]
        rfl
      · rw [if_neg hc, if_neg hc, List.map_append]
        obtain ⟨e1, e2⟩ := last_app [] ((subN (m - halfN n) (f + halfN n) (n - halfN n) false).map (spanX L)) (spanX L (f, halfN n))
        rw [show [(f, halfN n)].map (spanX L) = [spanX L (f, halfN n)] from rfl, e1, e2, ih (n - halfN n) (by omega) (m - halfN n) (f + halfN n) false old (by omega) (by omega) (fun h => by cases h)]
        have em := halfN_eq (m := m) (n := n) (by omega) hm hn2
        rw [spanT.eq_def nodeB L f n, dif_pos hn2, spanT.eq_def nodeB L f m, dif_pos (by omega), em]
        rfl
    · rw [dif_neg h2, dif_neg h2]
      have : m = n := by omega
      subst this
      cases w with
      | true => rw [if_pos rfl, ho rfl]
      | false => simp [spanX]
theorem spanT_len32 (L : Nat → List UInt8) (n : Nat) : ∀ f, 1 ≤ n → (∀ i, i < n → (L (f + i)).length = 32) → (spanT nodeB L f n).length = 32 := by
  intro f h1 h
  rw [spanT]
  split
  · exact nodeB_len _ _
  · have := h 0 (by omega); simpa using this
theorem leafF_len32 (LB : List (List UInt8)) (h : ∀ x ∈ LB, x.length = 32) (i : Nat) (hi : i < LB.length) : (leafF LB i).length = 32 := by
  unfold leafF
  rw [List.getD_eq_getElem?_getD, List.getElem?_eq_getElem hi]
  exact h _ (List.getElem_mem hi)
section
variable {LB : List (List UInt8)}
theorem span32 (h : ∀ x ∈ LB, x.length = 32) {x : Nat × Nat} (hx : spanOk LB.length x) : (spanX (leafF LB) x).length = 32 :=
  spanT_len32 _ _ _ hx.1 fun i hi => leafF_len32 LB h _ (by have := hx.2.2; omega)
theorem spans32 (h : ∀ x ∈ LB, x.length = 32) {l : List (Nat × Nat)} (hl : ∀ x ∈ l, spanOk LB.length x) : ∀ y ∈ l.map (spanX (leafF LB)), y.length = 32 := fun y hy => by
  obtain ⟨x, hx, rfl⟩ := List.mem_map.1 hy
  exact span32 h (hl x hx)
theorem all32 {p : List (List UInt8)} (h : ∀ y ∈ p, y.length = 32) : p.all is32 = true := by
  rw [List.all_eq_true]; intro x hx; simp [is32, h x hx]
theorem root32 (h : ∀ x ∈ LB, x.length = 32) {n : Int} (h0 : 0 ≤ n) (hn : n ≤ LB.length) : (rootQ (leafF LB) n).1.length = 32 ∧ (rootQ (leafF LB) n).2 = 0 := by
  unfold rootQ
  rw [if_neg (by omega)]
  split
  · exact ⟨sha256_len _, rfl⟩
  · exact ⟨spanT_len32 _ _ _ (by omega) fun i hi => leafF_len32 LB h _ (by omega), rfl⟩
/-- what a log proves of a record holds -/
theorem rec_sound (h : ∀ x ∈ LB, x.length = 32) (hl : LB.length ≤ 1048576) (i n : Nat) (hi : i < n) (hn : n ≤ LB.length) :
    recB (proveQ (leafF LB) i n).1 i n (leafF LB i) (rootQ (leafF LB) n).1 = 0 ∧ (proveQ (leafF LB) i n).2 = 0 := by
  have e1 : proveQ (leafF LB) i n = ((pathN i 0 n).map (spanX (leafF LB)), 0) := by unfold proveQ; rw [if_pos (by omega)]; rfl
  have e2 : rootQ (leafF LB) n = (spanT nodeB (leafF LB) 0 n, 0) := by unfold rootQ; rw [if_neg (by omega), if_neg (by omega)]; rfl
  have hr := root32 h (n := n) (by omega) (by omega)
  rw [e2] at hr
  have hp := spans32 h (l := pathN i 0 n) (fun x hx => pathN_ok n i 0 _ (algn_zero n) (by omega) x hx)
  have hc := climb_span (leafF LB) n i 0 hi
  rw [Nat.zero_add] at hc
  rw [e1, e2]
  refine ⟨?_, rfl⟩
  unfold recB
  have g1 : is32 (leafF LB i) = true := by simp [is32, leafF_len32 LB h i (by omega)]
  have g2 : is32 (spanT nodeB (leafF LB) 0 n) = true := by simp [is32, hr.1]
  rw [if_neg (by omega), if_pos ⟨by simp [stepsN], all32 hp, g1, g2⟩]
  rw [if_pos (by simp only [Int.toNat_natCast]; rw [hc]; simp)]
/-- what a log proves of a longer one holds -/
theorem tree_sound (h : ∀ x ∈ LB, x.length = 32) (hl : LB.length ≤ 1048576) (m n : Nat) (hm : m ≤ n) (hn : n ≤ LB.length) :
    treeB (proveTQ (leafF LB) m n).1 m n (rootQ (leafF LB) m).1 (rootQ (leafF LB) n).1 = 0 ∧ (proveTQ (leafF LB) m n).2 = 0 := by
  have hcond : 0 ≤ (n : Int) ∧ 0 ≤ (m : Int) ∧ (m : Int) ≤ n := by omega
  by_cases h0 : m = 0
  · have e : proveTQ (leafF LB) m n = ([], 0) := by unfold proveTQ; rw [if_pos hcond, if_pos (.inl (by omega))]
    rw [e]
    unfold treeB
    rw [if_neg (by omega), if_pos (by omega)]; simp
  · by_cases h1 : m = n
    · have e : proveTQ (leafF LB) m n = ([], 0) := by unfold proveTQ; rw [if_pos hcond, if_pos (.inr (by omega))]
      rw [e]
      subst h1
      unfold treeB
      rw [if_neg (by omega), if_neg (by omega), if_pos rfl]; simp
    · have e : proveTQ (leafF LB) m n = ((subN m 0 n true).map (spanX (leafF LB)), 0) := by unfold proveTQ; rw [if_pos hcond, if_neg (by omega)]; rfl
      rw [e]
      refine ⟨?_, rfl⟩
      unfold treeB
      rw [if_neg (by omega), if_neg (by omega), if_neg (by omega)]
      have hr := root32 h (n := n) (by omega) (by omega)
      have hr' := root32 h (n := m) (by omega) (by omega)
      have e2 : rootQ (leafF LB) n = (spanT nodeB (leafF LB) 0 n, 0) := by unfold rootQ; rw [if_neg (by omega), if_neg (by omega)]; rfl
      have e3 : rootQ (leafF LB) m = (spanT nodeB (leafF LB) 0 m, 0) := by unfold rootQ; rw [if_neg (by omega), if_neg (by omega)]; rfl
      have hp := spans32 h (l := subN m 0 n true) (fun x hx => subN_ok n m 0 _ true (by omega) (algn_zero n) (by omega) x hx)
      have hg := grow_span (leafF LB) n m 0 true (spanT nodeB (leafF LB) 0 m) (by omega) hm (fun _ => rfl)
      rw [e2] at hr ⊢
      rw [e3] at hr' ⊢
      simp only [Int.toNat_natCast]
      have g1 : is32 (spanT nodeB (leafF LB) 0 m) = true := by simp [is32, hr'.1]
      have g2 : is32 (spanT nodeB (leafF LB) 0 n) = true := by simp [is32, hr.1]
      rw [if_pos ⟨by simp [subStepsN], all32 hp, g1, g2⟩, if_pos (by rw [hg]; simp)]
end
end Go.Proofs.Tryd.Ai
end
section
/- A log's proofs, their hashes in boxes of their own. -/
namespace Go.Proofs.Tryd.Ai
open Go Go.AI Go.Proofs
set_option maxHeartbeats 1000000
set_option linter.unusedVariables false

theorem msRow_succ (ty a n k : Nat) : msRow ty a (n + 1) k = msRow ty a n k ++ [.ms ty 1 (a + n) 0 k] := by simp [msRow, List.range_succ]
theorem msRow_len (ty a n k : Nat) : (msRow ty a n k).length = n := by simp [msRow]
theorem freshM_eq (o : Own) (l : List UInt8) (hl : l.length = 32) (σ) : ev (100000 + 55) [.sl o (l.map .u8)] σ = some (.ms 5 1 σ.length 0 32, σ ++ [l.map .u8]) := by
  have q : 32 ≤ most := by unfold most; omega
  obtain ⟨x, r, rfl⟩ : ∃ x r, l = x :: r := by cases l with
    | nil => simp at hl
    | cons x r => exact ⟨x, r, rfl⟩
  have h1 : r.length + 1 = 32 := by simpa using hl
  have h2 : r.length = 31 := by omega
  refine EV_post rfl Tryd.func55 rfl (by simp [Tryd.ntmps55]) (by kernel_rfl) (by kernel_rfl) ?_
  simp (maxSteps := 4000000) [List.getElem?_cons_zero, List.getElem?_cons_succ, h2, q, Tryd.results55]
  repeat (rw [need_of]; rotate_left; (· (try unfold most); omega); simp (maxSteps := 4000000) [List.getElem?_cons_zero, List.getElem?_cons_succ, h2, q, Tryd.results55])
/-- bytes in boxes -/
def boxesB (l : List (List UInt8)) : List (List AV) := l.map fun x => x.map .u8
theorem boxesB_len (l : List (List UInt8)) : (boxesB l).length = l.length := by simp [boxesB]
theorem hashesM_eq {s : List (List AV)} {p q : Nat} {LB : List (List UInt8)} (h : LogOf s p q LB) (l : List (Nat × Nat)) (hl : l.length ≤ 2 ^ 30) (hsp : ∀ x ∈ l, spanOk LB.length x) :
    ev (100000 + 79) [.sl .sh (l.map spanA), .fb 17 [logP p]] s = some (.tup [.sl .sh (msRow 5 s.length l.length 32), .int .i64 0], s ++ boxesB (l.map (spanX (leafF LB)))) := by
  have hlen := h.len
  refine EV_post rfl Tryd.func79 rfl (by simp [Tryd.ntmps79]) (by kernel_rfl) (by kernel_rfl) ?_
  simp only [logP]
  simp (maxSteps := 4000000) [List.getElem?_cons_zero, List.getElem?_cons_succ, ]
  refine Post_loop (I := fun i : Nat => ⟨[(1, .fb 17 [.gp p 0 (some (83, 1))]), (6, .sl (.ex 36 1) (msRow 5 s.length i 32)), (11, .sl .sh (l.map spanA)), (12, .int .i64 l.length), (13, .int .i64 i)], [], s ++ boxesB ((l.take i).map (spanX (leafF LB)))⟩) (Pr := fun i => i ≤ l.length) (μ := fun i => l.length - i) (a := 0) (by simp [msRow, boxesB]) (Nat.zero_le _) ?_
  intro i hi
  by_cases hc : i < l.length
  · obtain ⟨x, hx⟩ : ∃ x, l[i]? = some x := ⟨_, List.getElem?_eq_getElem hc⟩
    have hxs : (l.map spanA)[i]? = some (.agg [.int .i64 x.1, .int .i64 x.2]) := by rw [List.getElem?_map, hx]; rfl
    obtain ⟨x1, x2, x3⟩ := hsp x (List.mem_of_getElem? hx)
    have h' := h.app (boxesB ((l.take i).map (spanX (leafF LB))))
    have hH := hash_eqB (h'.rd LB.length) (by omega) x.2 x.1 0 x1 x2 x3
    obtain ⟨j, _, e | ⟨_, c, _⟩⟩ := hashP_tells h'.tells x.2 x.1 0 x1 x2 x3 (by omega)
    · rw [e] at hH
      have h32 := span32 h.small (x := x) ⟨x1, x2, x3⟩
      have hsl : (s ++ boxesB ((l.take i).map (spanX (leafF LB)))).length = s.length + i := by simp [boxesB]; omega
      have hf := freshM_eq .sh (spanX (leafF LB) x) h32 (s ++ boxesB ((l.take i).map (spanX (leafF LB))))
      rw [hsl] at hf
      have hnext : (s ++ boxesB ((l.take i).map (spanX (leafF LB)))) ++ [(spanX (leafF LB) x).map .u8] = s ++ boxesB ((l.take (i + 1)).map (spanX (leafF LB))) := by
        rw [List.take_add_one, hx]; simp [boxesB]
      rw [hnext] at hf
      simp only [logRd, logP] at hH
      have hSX : spanT nodeB (leafF LB) x.1 x.2 = spanX (leafF LB) x := rfl
      rw [hSX] at hH
      have w1 : IntKind.i64.wrap ((i : Int) + 1) = (i : Int) + 1 := wrap64 (by omega)
      have hrl := msRow_len 5 s.length i 32
      have hn1 : i + 1 ≤ most := by unfold most; omega
      have hrs := msRow_succ 5 s.length i 32
      have hall : allCells 1 (msRow 5 s.length i 32) := fun y hy => by
        obtain ⟨z, _, rfl⟩ := List.mem_map.1 hy
        exact ⟨rfl, fun c hc => by simp [AV.cells] at hc; subst hc; rfl⟩
      generalize hLs : l.map spanA = Ls at *
      generalize s ++ boxesB ((l.take i).map (spanX (leafF LB))) = S1 at *
      generalize hS2 : s ++ boxesB ((l.take (i + 1)).map (spanX (leafF LB))) = S2 at *
      generalize hRow : msRow 5 s.length i 32 = Row at *
      generalize spanX (leafF LB) x = X at *
      simp (maxSteps := 4000000) [List.getElem?_cons_zero, List.getElem?_cons_succ, -getElem?_pos, hc, hxs, hH, hf, w1, hrl, hall]
      repeat (rw [need_of]; rotate_left; (· (try unfold most); omega); simp (maxSteps := 4000000) [List.getElem?_cons_zero, List.getElem?_cons_succ, -getElem?_pos, hc, hxs, hH, hf, w1, hrl, hall])
      exact ⟨i + 1, by omega, by omega, ⟨by rw [hrs], by simp⟩, by rw [← hS2, List.map_take]⟩
    · cases c
  · have : i = l.length := by omega
    subst this
    rw [List.take_length]
    generalize s ++ boxesB (l.map (spanX (leafF LB))) = S2 at *
    generalize hRow : msRow 5 s.length l.length 32 = Row at *
    simp (maxSteps := 4000000) [List.getElem?_cons_zero, List.getElem?_cons_succ, hc, Tryd.results79]
section
variable {s : List (List AV)} {p q : Nat} {LB : List (List UInt8)}
theorem ProveM_eq (h : LogOf s p q LB) (i n : Int) (hn : n ≤ LB.length) :
    ev (100000 + 39) [.int .i64 i, .int .i64 n, .fb 17 [logP p]] s = some (.tup [.sl .sh (msRow 5 s.length (proveQ (leafF LB) i n).1.length 32), .int .i64 (proveQ (leafF LB) i n).2], s ++ boxesB (proveQ (leafF LB) i n).1) := by
  have hM := mayRecord_eq i n
  have hlen := h.len
  refine EV_post rfl Tryd.func39 rfl (by simp [Tryd.ntmps39]) (by kernel_rfl) (by kernel_rfl) ?_
  by_cases hc : 1 ≤ n ∧ 0 ≤ i ∧ i < n
  · obtain ⟨m, rfl⟩ := Int.eq_ofNat_of_zero_le (show 0 ≤ n by omega)
    obtain ⟨k, rfl⟩ := Int.eq_ofNat_of_zero_le (show 0 ≤ i by omega)
    have hP : proveQ (leafF LB) k m = ((pathN k 0 m).map (spanX (leafF LB)), 0) := by unfold proveQ; rw [if_pos hc]; rfl
    have hp : ∀ σ, ev 63 [.int .i64 k, .agg [.int .i64 0, .int .i64 m]] σ = some (.sl (.ex 90 2) ((pathN k 0 m).map spanA), σ) := path_eq m k 0 (by omega) (by omega) (by omega)
    have hh := hashesM_eq h (pathN k 0 m) (by have := pathN_le m k 0; omega) (fun x hx => pathN_ok m k 0 _ (algn_zero m) (by omega) x hx)
    rw [dT (by omega)] at hM
    simp only [logP] at hh ⊢
    rw [hP]
    simp only [List.length_map]
    generalize (pathN k 0 m).map spanA = Ls at *
    generalize (pathN k 0 m).map (spanX (leafF LB)) = X at *
    generalize msRow 5 s.length (pathN k 0 m).length 32 = R at *
    simp (maxSteps := 4000000) [List.getElem?_cons_zero, List.getElem?_cons_succ, hM, hp, hh, Tryd.results39]
  · have hP : proveQ (leafF LB) i n = ([], 6) := by unfold proveQ; rw [if_neg hc]
    rw [dF (by omega)] at hM
    simp (maxSteps := 4000000) [List.getElem?_cons_zero, List.getElem?_cons_succ, hM, hP, msRow, boxesB, Tryd.results39]
theorem ProveTreeM_eq (h : LogOf s p q LB) (m n : Int) (hn : n ≤ LB.length) :
    ev (100000 + 40) [.int .i64 m, .int .i64 n, .fb 17 [logP p]] s = some (.tup [.sl .sh (msRow 5 s.length (proveTQ (leafF LB) m n).1.length 32), .int .i64 (proveTQ (leafF LB) m n).2], s ++ boxesB (proveTQ (leafF LB) m n).1) := by
  have hM := mayTree_eq m n
  have hlen := h.len
  refine EV_post rfl Tryd.func40 rfl (by simp [Tryd.ntmps40]) (by kernel_rfl) (by kernel_rfl) ?_
  by_cases hc : 0 ≤ n ∧ 0 ≤ m ∧ m ≤ n
  · obtain ⟨b, rfl⟩ := Int.eq_ofNat_of_zero_le (show 0 ≤ n by omega)
    obtain ⟨a, rfl⟩ := Int.eq_ofNat_of_zero_le (show 0 ≤ m by omega)
    rw [dT (by omega)] at hM
    by_cases c1 : a = 0
    · have hP : proveTQ (leafF LB) a b = ([], 0) := by unfold proveTQ; rw [if_pos hc, if_pos (.inl (by omega))]
      subst c1
      have hM' : ∀ σ, ev 69 [.int .i64 0, .int .i64 b] σ = some (.bool true, σ) := hM
      have hP' : proveTQ (leafF LB) 0 b = ([], 0) := hP
      simp (maxSteps := 4000000) [List.getElem?_cons_zero, List.getElem?_cons_succ, hM', hP', msRow, boxesB, Tryd.results40]
    · by_cases c2 : a = b
      · have hP : proveTQ (leafF LB) a b = ([], 0) := by unfold proveTQ; rw [if_pos hc, if_pos (.inr (by omega))]
        subst c2
        simp (maxSteps := 4000000) [List.getElem?_cons_zero, List.getElem?_cons_succ, hM, c1, hP, msRow, boxesB, Tryd.results40]
      · have hP : proveTQ (leafF LB) a b = ((subN a 0 b true).map (spanX (leafF LB)), 0) := by unfold proveTQ; rw [if_pos hc, if_neg (by omega)]; rfl
        have hp : ∀ σ, ev 70 [.int .i64 a, .agg [.int .i64 0, .int .i64 b], .bool true] σ = some (.sl (.ex 90 2) ((subN a 0 b true).map spanA), σ) := subproof_eq b a 0 true (by omega) (by omega) (by omega)
        have hh := hashesM_eq h (subN a 0 b true) (by have := subN_le b a 0 true; omega) (fun x hx => subN_ok b a 0 _ true (by omega) (algn_zero b) (by omega) x hx)
        simp only [logP] at hh ⊢
        rw [hP]
        simp only [List.length_map]
        generalize (subN a 0 b true).map spanA = Ls at *
        generalize (subN a 0 b true).map (spanX (leafF LB)) = X at *
        generalize msRow 5 s.length (subN a 0 b true).length 32 = R at *
        simp (maxSteps := 4000000) [List.getElem?_cons_zero, List.getElem?_cons_succ, hM, c1, c2, hp, hh, Tryd.results40]
  · have hP : proveTQ (leafF LB) m n = ([], 6) := by unfold proveTQ; rw [if_neg hc]
    rw [dF (by omega)] at hM
    simp (maxSteps := 4000000) [List.getElem?_cons_zero, List.getElem?_cons_succ, hM, hP, msRow, boxesB, Tryd.results40]
theorem LogOf.proveM (h : LogOf s p q LB) (i n : Int) :
    ev (100000 + 31) [logP p, .int .i64 i, .int .i64 n] s = some (.tup [.sl .sh (msRow 5 s.length (lproveQ LB i n).1.length 32), .int .i64 (lproveQ LB i n).2], s ++ boxesB (lproveQ LB i n).1) := by
  have hS := h.size
  simp only [logP] at hS ⊢
  refine EV_post rfl Tryd.func31 rfl (by simp [Tryd.ntmps31]) (by kernel_rfl) (by kernel_rfl) ?_
  by_cases hc : (LB.length : Int) < n
  · have hP : lproveQ LB i n = ([], 6) := by unfold lproveQ; rw [if_pos hc]
    simp (maxSteps := 4000000) [List.getElem?_cons_zero, List.getElem?_cons_succ, hS, hc, hP, msRow, boxesB, Tryd.results31]
  · have hP : lproveQ LB i n = proveQ (leafF LB) i n := by unfold lproveQ; rw [if_neg hc]
    have hR := ProveM_eq h i n (by omega)
    simp only [logP] at hR
    rw [hP]
    generalize msRow 5 s.length (proveQ (leafF LB) i n).1.length 32 = R at *
    simp (maxSteps := 4000000) [List.getElem?_cons_zero, List.getElem?_cons_succ, hS, hc, hR, Tryd.results31]
theorem LogOf.proveTM (h : LogOf s p q LB) (m n : Int) :
    ev (100000 + 32) [logP p, .int .i64 m, .int .i64 n] s = some (.tup [.sl .sh (msRow 5 s.length (lproveTQ LB m n).1.length 32), .int .i64 (lproveTQ LB m n).2], s ++ boxesB (lproveTQ LB m n).1) := by
  have hS := h.size
  simp only [logP] at hS ⊢
  refine EV_post rfl Tryd.func32 rfl (by simp [Tryd.ntmps32]) (by kernel_rfl) (by kernel_rfl) ?_
  by_cases hc : (LB.length : Int) < n
  · have hP : lproveTQ LB m n = ([], 6) := by unfold lproveTQ; rw [if_pos hc]
    simp (maxSteps := 4000000) [List.getElem?_cons_zero, List.getElem?_cons_succ, hS, hc, hP, msRow, boxesB, Tryd.results32]
  · have hP : lproveTQ LB m n = proveTQ (leafF LB) m n := by unfold lproveTQ; rw [if_neg hc]
    have hR := ProveTreeM_eq h m n (by omega)
    simp only [logP] at hR
    rw [hP]
    generalize msRow 5 s.length (proveTQ (leafF LB) m n).1.length 32 = R at *
    simp (maxSteps := 4000000) [List.getElem?_cons_zero, List.getElem?_cons_succ, hS, hc, hR, Tryd.results32]
/-- hashes in boxes are written over: nothing else changes -/
theorem over_eq (a n : Nat) (S : List (List AV)) (hb : ∀ i, i < n → ∃ X : List AV, S[a + i]? = some X ∧ X.length = 32) (hn : n ≤ 2 ^ 30) :
    ∃ r, ev 36 [.sl .sh (msRow 5 a n 32)] S = some r ∧ ∃ S', r = (.tup [], S') ∧ S'.length = S.length ∧ ∀ b, b < a ∨ a + n ≤ b → S'[b]? = S[b]? := by
  refine EV_postE rfl Tryd.func36 rfl (by simp [Tryd.ntmps36]) (by kernel_rfl) (by kernel_rfl) ?_
  have hrl := msRow_len 5 a n 32
  simp (maxSteps := 4000000) [List.getElem?_cons_zero, List.getElem?_cons_succ, ]
  refine Post_loop (I := fun x : Nat × List (List AV) => ⟨[(0, .sl .sh (msRow 5 a n 32)), (2, .int .i64 x.1)], [], x.2⟩) (Pr := fun x => x.1 ≤ n ∧ x.2.length = S.length ∧ (∀ b, b < a ∨ a + n ≤ b → x.2[b]? = S[b]?) ∧ ∀ i, i < n → ∃ X : List AV, x.2[a + i]? = some X ∧ X.length = 32) (μ := fun x => n - x.1) (a := (0, S)) (by simp) ⟨Nat.zero_le _, rfl, fun _ _ => rfl, hb⟩ ?_
  rintro ⟨i, s1⟩ ⟨hi, hl, hsame, hX⟩
  simp only at hi hl hsame hX ⊢
  by_cases hc : i < n
  · have hrg : (msRow 5 a n 32)[i]? = some (.ms 5 1 (a + i) 0 32) := by simp [msRow, hc]
    have w1 : IntKind.i64.wrap ((i : Int) + 1) = (i : Int) + 1 := wrap64 (by omega)
    generalize msRow 5 a n 32 = R at *
    simp (maxSteps := 4000000) [List.getElem?_cons_zero, List.getElem?_cons_succ, -getElem?_pos, hrl, hc]
    refine Post_loop (I := fun x : Nat × List (List AV) => ⟨[(0, .sl .sh R), (2, .int .i64 i), (3, .int .i64 x.1)], [], x.2⟩) (Pr := fun x => x.1 ≤ 32 ∧ x.2.length = S.length ∧ (∀ b, b < a ∨ a + n ≤ b → x.2[b]? = S[b]?) ∧ ∀ i, i < n → ∃ X : List AV, x.2[a + i]? = some X ∧ X.length = 32) (μ := fun x => 32 - x.1) (a := (0, s1)) (by simp) ⟨Nat.zero_le _, hl, hsame, hX⟩ ?_
    rintro ⟨j, s2⟩ ⟨hj, hl2, hsame2, hX2⟩
    simp only at hj hl2 hsame2 hX2 ⊢
    by_cases hc2 : j < 32
    · obtain ⟨X, hx, hxl⟩ := hX2 i hc
      have w2 : IntKind.i64.wrap ((j : Int) + 1) = (j : Int) + 1 := wrap64 (by omega)
      have hjx : j + 1 ≤ X.length := by omega
      simp (maxSteps := 4000000) [List.getElem?_cons_zero, List.getElem?_cons_succ, -getElem?_pos, hrl, hc, hrg, hc2, hx, hjx, w2]
      have hlt := (List.getElem?_eq_some_iff.1 hx).1
      refine ⟨j + 1, _, ⟨by omega, by simp; exact hl2, fun b hb => by rw [List.getElem?_set, if_neg (by omega)]; exact hsame2 b hb, fun k hk => ?_⟩, by omega, by simp, rfl⟩
      by_cases hki : k = i
      · subst hki
        rw [List.getElem?_set, if_pos rfl, if_pos hlt]
        exact ⟨_, rfl, by simp; omega⟩
      · rw [List.getElem?_set, if_neg (by omega)]; exact hX2 k hk
    · simp (maxSteps := 4000000) [List.getElem?_cons_zero, List.getElem?_cons_succ, -getElem?_pos, hrl, hc, hrg, hc2, w1]
      exact ⟨i + 1, s2, ⟨by omega, hl2, hsame2, hX2⟩, by omega, by simp, rfl⟩
  · simp (maxSteps := 4000000) [List.getElem?_cons_zero, List.getElem?_cons_succ, hc, hrl, Tryd.results36]
    exact ⟨_, _, ⟨rfl, rfl⟩, _, ⟨rfl, rfl⟩, hl, hsame⟩
end
end Go.Proofs.Tryd.Ai
end
section
/- TlogProves: the evaluation. -/
namespace Go.Proofs.Tryd.Ai
open Go Go.AI Go.Proofs
set_option maxHeartbeats 4000000
set_option linter.unusedVariables false

theorem boxesB_get {s j : List (List AV)} {Z : List (List UInt8)} : ∀ (i : Nat) x, Z[i]? = some x → (s ++ boxesB Z ++ j)[s.length + i]? = some (x.map .u8) := fun i x h => by
  have hi := (List.getElem?_eq_some_iff.1 h).1
  rw [List.getElem?_append_left (by simp [boxesB]; omega), List.getElem?_append_right (by omega), show s.length + i - s.length = i by omega, boxesB, List.getElem?_map, h]; rfl
theorem SameListsM_eq (S : List (List AV)) (a k : Nat) (Z X : List (List UInt8)) (hZ : ∀ (i : Nat) x, Z[i]? = some x → S[a + i]? = some (x.map .u8)) (h32 : ∀ x ∈ Z, x.length = 32) (hl : Z.length ≤ 2 ^ 40) (hk : Z.length = k) :
    ev (900000 + 35) [.sl .sh (msRow 5 a k 32), .sl .sh (hs X)] S = some (.bool (Z == X), S) := by
  subst hk
  refine EV_brw (bs := [.sl .sh (hs Z), .sl .sh (hs X)]) rfl ?_ (SameLists_eq Z X hl (fun x hx => by rw [h32 x hx]; omega) []) rfl
  simp only [mapO, flatV_row 5 hZ h32, flatV_lists S 5, bnd]
theorem provesLaw_eq (l : List (List UInt8)) (i m n : Int) (h : l.length ≤ 1048576 ∧ ∀ s ∈ l, s.length ≤ 1048576) (σ0 : List (List AV)) : ev 6 [.sl .sh (hs l), .int .i64 i, .int .i64 m, .int .i64 n] [] = some (.bool true, []) := by
  obtain ⟨σ, hσ⟩ : ∃ σ : List (List AV), σ = [] := ⟨_, rfl⟩
  rw [← hσ]
  have hF := first_eq
  obtain ⟨b, hfew, hb⟩ := few_eq l (by omega) (fun x hx => by have := h.2 x hx; omega) σ
  refine EV_post rfl Tryd.func6 rfl (by simp [Tryd.ntmps6]) (by kernel_rfl) (by kernel_rfl) ?_
  cases b with
  | false => simp (maxSteps := 4000000) [List.getElem?_cons_zero, List.getElem?_cons_succ, hF, hfew, Tryd.results6]
  | true =>
    have hl := hb rfl
    obtain ⟨s, p, q, hM, hlog, hpre, hlen, hp, hq⟩ := made_of l (by omega) (fun x hx => by have := h.2 x hx; omega) σ
    obtain ⟨LB, hLB⟩ : ∃ LB, l.map leafB = LB := ⟨_, rfl⟩
    rw [hLB] at hM hlog
    have hLBl : LB.length = l.length := by rw [← hLB]; simp
    have hS := hlog.size
    have hNum := Num_eq
    have hHl : (hs l).length = l.length := by simp [hs]
    have x1 := hlog.root n
    have x2 := hlog.proveM i n
    have hlog2 := hlog.app (boxesB (lproveQ LB i n).1)
    have x3 := hlog2.proveTM m n
    by_cases hin : 0 ≤ n ∧ n ≤ l.length
    · obtain ⟨N, rfl⟩ := Int.eq_ofNat_of_zero_le hin.1
      have hNl : N ≤ LB.length := by omega
      have e1 : lrootQ LB N = rootQ (leafF LB) N := by unfold lrootQ; rw [if_neg (by omega)]
      have e2 : lproveQ LB i N = proveQ (leafF LB) i N := by unfold lproveQ; rw [if_neg (by omega)]
      have e3 : lproveTQ LB m N = proveTQ (leafF LB) m N := by unfold lproveTQ; rw [if_neg (by omega)]
      have htl : (LB.take N).length = N := by simp; omega
      have htx : ∀ x ∈ LB.take N, x.length ≤ 2 ^ 27 := fun x hx => by rw [hlog.small x (List.mem_of_mem_take hx)]; omega
      have hLe : ∀ k, k < (LB.take N).length → leafF (LB.take N) k = leafF LB k := fun k hk => leafF_take (by omega)
      have y1 := rProve_eq (leafF LB) (LB.take N) i (by omega) hLe htx
      have y2 := rProveTree_eq (leafF LB) (LB.take N) m (by omega) hLe htx
      have y3 := rHash_eq _ (LB.take N) rfl (by omega) htx
      rw [htl] at y1 y2
      have e4 : hashL (LB.take N) = (rootQ (leafF LB) N).1 := by
        unfold rootQ
        by_cases h0 : N = 0
        · subst h0; rfl
        · rw [if_neg (by omega), if_neg (by omega), hashL_span (L := leafF LB) (f := 0) (by omega) (fun k hk => by rw [Nat.zero_add]; exact hLe k hk), htl]; rfl
      rw [e4] at y3
      rw [e1] at x1; rw [e2] at x2 x3 hlog2; rw [e3] at x3
      have r0 : (rootQ (leafF LB) N).2 = 0 := (root32 hlog.small (n := N) (by omega) (by omega)).2
      have r1 := (root32 hlog.small (n := N) (by omega) (by omega)).1
      have hL : ∀ i, (leafF LB i).length ≤ 2 ^ 27 := fun i => by have := hlog.leaf i; omega
      have n2 := proveQ_len (leafF LB) hL i N (by omega)
      have n3 := proveTQ_len (leafF LB) hL m N (by omega)
      have z2 : ∀ x ∈ (proveQ (leafF LB) i N).1, x.length = 32 := by
        unfold proveQ; split
        · exact spans32 hlog.small (fun x hx => pathN_ok _ _ 0 _ (algn_zero _) (by omega) x hx)
        · simp
      have z3 : ∀ x ∈ (proveTQ (leafF LB) m N).1, x.length = 32 := by
        unfold proveTQ; split
        · split
          · simp
          · exact spans32 hlog.small (fun x hx => subN_ok _ _ 0 _ true (by omega) (algn_zero _) (by omega) x hx)
        · simp
      obtain ⟨R1, hR1⟩ : ∃ R, rootQ (leafF LB) N = R := ⟨_, rfl⟩
      obtain ⟨R2, hR2⟩ : ∃ R, proveQ (leafF LB) i N = R := ⟨_, rfl⟩
      obtain ⟨R3, hR3⟩ : ∃ R, proveTQ (leafF LB) m N = R := ⟨_, rfl⟩
      rw [hR1] at x1 y3 r0 r1
      rw [hR2] at x2 x3 y1 n2 z2 e2 hlog2
      rw [hR3] at x3 y2 n3 z3
      have y4 := SameBytes_eq .sh .sh R1.1 R1.1 (by omega)
      have y4' : ∀ σ, ev 20 [.sl .sh (R1.1.map .u8), .sl .sh (R1.1.map .u8)] σ = some (.bool true, σ) := fun σ => by rw [y4 σ]; simp
      have y5 := SameListsM_eq (s ++ boxesB R2.1 ++ boxesB R3.1) s.length R2.1.length R2.1 R2.1 boxesB_get z2 (by omega) rfl
      have y6 := SameListsM_eq (s ++ boxesB R2.1 ++ boxesB R3.1) (s ++ boxesB R2.1).length R3.1.length R3.1 R3.1 (fun i x h => by have := boxesB_get (s := s ++ boxesB R2.1) (j := []) i x h; rwa [List.append_nil] at this) z3 (by omega) rfl
      have hSl : (s ++ boxesB R2.1).length = s.length + R2.1.length := by simp [boxesB]
      have hSl3 : (s ++ boxesB R2.1 ++ boxesB R3.1).length = s.length + R2.1.length + R3.1.length := by simp [boxesB]; omega
      obtain ⟨_, o1, S1, rfl, o2, o3⟩ := over_eq s.length R2.1.length (s ++ boxesB R2.1 ++ boxesB R3.1) (fun i hi => by
        obtain ⟨x, hx⟩ : ∃ x, R2.1[i]? = some x := ⟨_, List.getElem?_eq_getElem hi⟩
        exact ⟨_, boxesB_get i x hx, by simp [z2 x (List.mem_of_getElem? hx)]⟩) (by omega)
      obtain ⟨_, o4, S2, rfl, o5, o6⟩ := over_eq (s ++ boxesB R2.1).length R3.1.length S1 (fun i hi => by
        obtain ⟨x, hx⟩ : ∃ x, R3.1[i]? = some x := ⟨_, List.getElem?_eq_getElem hi⟩
        have := boxesB_get (s := s ++ boxesB R2.1) (j := []) i x hx
        rw [List.append_nil] at this
        refine ⟨x.map .u8, ?_, by simp [z3 x (List.mem_of_getElem? hx)]⟩
        rw [o3 _ (by omega)]; exact this) (by omega)
      have hpS := hlog.at'.plt
      have hqS := hlog.at'.qlt
      have hget : ∀ b, b < s.length → S2[b]? = s[b]? := fun b hb => by
        rw [o6 _ (by omega), o3 _ (by omega), List.append_assoc, List.getElem?_append_left hb]
      have hlog3 : LogOf S2 p q LB := hlog.keep (hget p hpS) (hget q hqS)
      have x4 := hlog3.prove i N
      rw [e2] at x4
      have y7 := SameLists_eq R2.1 R2.1 (by omega) (fun x hx => by have := n2.2 x hx; omega)
      have y7' : ∀ σ, ev 35 [.sl .sh (hs R2.1), .sl .sh (hs R2.1)] σ = some (.bool true, σ) := fun σ => by rw [y7 σ]; simp
      have ht : hs (LB.take N) = (hs LB).take N := List.map_take
      rw [ht] at y1 y2 y3
      have hLl : (hs LB).length = LB.length := by simp [hs]
      simp only [logP, beq_self_eq_true] at hM x1 x2 x3 x4 hS y5 y6
      generalize s ++ boxesB R2.1 ++ boxesB R3.1 = S3 at *
      generalize hS20 : s ++ boxesB R2.1 = S20 at *
      generalize hms2 : msRow 5 s.length R2.1.length 32 = M2 at *
      generalize hms3 : msRow 5 S20.length R3.1.length 32 = M3 at *
      have a1 : allCells 1 (hs LB) := fun x hx => by obtain ⟨y, _, rfl⟩ := List.mem_map.1 hx; exact ⟨rfl, fun c hc => by simp [AV.cells] at hc; subst hc; rfl⟩
      generalize hs l = H at *
      generalize hs LB = HB at *
      generalize hs R2.1 = H2 at *
      generalize hs R3.1 = H3 at *
      have q1 : N ≤ l.length := by omega
      simp (maxSteps := 4000000) [List.getElem?_cons_zero, List.getElem?_cons_succ, hF, hfew, hM, log_eql, hHl, hLl, hLBl, hS, q1, x1, x2, x3, a1, y1, y2, y3, y4', y5, y6, o1, o4, x4, y7', hNum, r0, Tryd.results6]
      rw [need_of (by subst hσ; intro b hb; simp at hb)]; subst hσ; simp
    · have w00 : IntKind.i64.wrap 0 = 0 := by decide
      have e1 : lrootQ LB n = ([], 6) := by
        unfold lrootQ; split
        · rfl
        · unfold rootQ; rw [if_pos (by omega)]
      have e2 : lproveQ LB i n = ([], 6) := by
        unfold lproveQ; split
        · rfl
        · unfold proveQ; rw [if_neg (by omega)]
      have e3 : lproveTQ LB m n = ([], 6) := by
        unfold lproveTQ; split
        · rfl
        · unfold proveTQ; rw [if_neg (by omega)]
      rw [e1] at x1; rw [e2] at x2 x3; rw [e3] at x3
      simp only [logP, msRow, boxesB, List.length_nil, List.range_zero, List.map_nil, List.append_nil] at hM x1 x2 x3 hS
      generalize hs l = H at *
      generalize hs LB = HB at *
      by_cases h0 : 0 ≤ n
      · have h1 : ¬ n ≤ l.length := by omega
        simp (maxSteps := 4000000) [List.getElem?_cons_zero, List.getElem?_cons_succ, hF, hfew, hM, log_eql, hHl, hLBl, hS, h0, h1, x1, x2, x3, hNum, w00, Tryd.results6]
        rw [need_of (by subst hσ; intro b hb; simp at hb)]; subst hσ; simp
      · simp (maxSteps := 4000000) [List.getElem?_cons_zero, List.getElem?_cons_succ, hF, hfew, hM, log_eql, hHl, hLBl, hS, h0, x1, x2, x3, hNum, w00, Tryd.results6]
        rw [need_of (by subst hσ; intro b hb; simp at hb)]; subst hσ; simp
end Go.Proofs.Tryd.Ai
end
section
/- A statement's arguments, as the evaluation holds them. No program is in sight. -/
namespace Go.AI
open Go.RowKit Go.ChangeShapes
set_option linter.unusedVariables false

theorem plain_addr {w : World} {a : Addr} {v : Value} (h : w.cell? a = some v) : ∃ b off, a = ⟨b, off, none⟩ := by
  obtain ⟨b, off, s⟩ := a
  cases s with
  | none => exact ⟨b, off, rfl⟩
  | some s =>
    simp only [World.cell?] at h
    split at h <;> simp at h

section
variable {H : Type} {enc : TypeId × Value → H} {P : Program} {W : World} {t e : TypeId} {α : Type}

/-- what is read at a type is a value of α, held as R says; Q: what of the datum -/
structure Reads (enc : TypeId × Value → H) (P : Program) (W : World) (t : TypeId) {α : Type} (R : α → AV) (Q : α → DataW H → Prop) : Prop where
  cells : ∀ a, (R a).cells.length = P.cellsOf t ∧ (∀ c ∈ (R a).cells, plain c = true)
  pos : 0 < P.cellsOf t
  rd : ∀ fuel cs x, DataW.trod enc P W 0 (fun _ => true) true fuel t cs = some x → ∃ a, Q a x.1 ∧ cs.length = P.cellsOf t ∧ ∀ j c, (R a).cells[j]? = some c → Rep W.heap.size gh0 W (cs.getD j undef) c

theorem one_cell {v : Value} {c : AV} (h : Rep W.heap.size gh0 W v c) : ∀ j c', [c][j]? = some c' → Rep W.heap.size gh0 W ([v].getD j undef) c' := by
  intro j c' e
  cases j with
  | zero => simp at e; subst e; exact h
  | succ j => simp at e

theorem Reads.int {k : IntKind} (ht : P.underlying t = some (.int k)) (hc : P.cellsOf t = 1) : Reads enc P W t (fun n : Int => AV.int k n) (fun n d => d = .lit (.int k n) ∧ (Lit.int k n).wf = true) := by
  refine ⟨fun a => ⟨by rw [hc]; rfl, fun c h => by simp [AV.cells] at h; subst h; rfl⟩, by omega, fun fuel cs x h => ?_⟩
  obtain ⟨n, rfl, rfl, hw⟩ := DataW.trod_int ht h
  exact ⟨n, ⟨rfl, hw⟩, by simp [hc], one_cell (.int k n)⟩
theorem Reads.u8 (ht : P.underlying t = some (.int .u8)) (hc : P.cellsOf t = 1) : Reads enc P W t AV.u8 (fun n d => d = .lit (.int .u8 n.toNat)) := by
  refine ⟨fun a => ⟨by rw [hc]; rfl, fun c h => by simp [AV.cells, AV.u8] at h; subst h; rfl⟩, by omega, fun fuel cs x h => ?_⟩
  obtain ⟨n, rfl, rfl, hw⟩ := DataW.trod_int ht h
  have hb := bounds_u8 hw
  obtain ⟨m, rfl⟩ := Int.eq_ofNat_of_zero_le hb.1
  have hm : (UInt8.ofNat m).toNat = m := by simp only [UInt8.toNat_ofNat']; omega
  exact ⟨UInt8.ofNat m, by rw [hm], by simp [hc], one_cell (by rw [AV.u8, hm]; exact .int _ _)⟩
theorem Reads.bool (ht : P.underlying t = some .bool) (hc : P.cellsOf t = 1) : Reads enc P W t AV.bool (fun b d => d = .lit (.bool b)) := by
  refine ⟨fun a => ⟨by rw [hc]; rfl, fun c h => by simp [AV.cells] at h; subst h; rfl⟩, by omega, fun fuel cs x h => ?_⟩
  cases fuel with
  | zero => simp [DataW.trod] at h
  | succ n =>
    unfold DataW.trod at h
    rw [ht] at h
    split at h
    all_goals first
      | (rename_i b _; injection h with h; subst h; exact ⟨b, rfl, by simp [hc], one_cell (.bool _)⟩)
      | (simp at *; done)
theorem Reads.str (ht : P.underlying t = some .string) (hc : P.cellsOf t = 1) : Reads enc P W t AV.str (fun s d => d = .lit (.string s) ∧ s.length ≤ maxLen) := by
  refine ⟨fun a => ⟨by rw [hc]; rfl, fun c h => by simp [AV.cells] at h; subst h; rfl⟩, by omega, fun fuel cs x h => ?_⟩
  obtain ⟨s, rfl, rfl, hw⟩ := DataW.trod_string ht h
  exact ⟨s.data.toList, ⟨rfl, by simpa using hw⟩, by simp [hc], one_cell (.str s)⟩

theorem cells_get {w : World} {a : Addr} {n : Nat} {cs : List Value} (h : w.cells? 0 a n = some cs) : cs.length = n ∧ ∀ j, j < n → w.cell? (a.add j) = some (cs.getD j undef) := by
  unfold World.cells? at h
  rw [if_pos (Nat.zero_le _)] at h
  have hl := mapM_some_length h
  refine ⟨by simpa using hl, fun j hj => ?_⟩
  have h1 := mapM_some_get h j j (by simp [hj])
  have hlt : j < cs.length := by rw [hl]; simpa using hj
  rw [h1, List.getElem?_eq_getElem hlt]
  simp [List.getD, List.getElem?_eq_getElem hlt]

theorem flat_at {α : Type} {R : α → AV} (l : List α) (i j : Nat) (c : AV) (h : ((l.map R)[i]?.bind fun e => e.cells[j]?) = some c) : ∃ a, l[i]? = some a ∧ (R a).cells[j]? = some c := by
  rw [List.getElem?_map] at h
  cases hx : l[i]? with
  | none => rw [hx] at h; cases h
  | some a => rw [hx] at h; exact ⟨a, rfl, h⟩
theorem choose_list {α : Type} {Q : Nat → α → Prop} (n : Nat) (h : ∀ i, i < n → ∃ z, Q i z) : ∃ l : List α, l.length = n ∧ ∀ (i : Nat) (z : α), l[i]? = some z → Q i z := by
  induction n with
  | zero => exact ⟨[], rfl, fun i z e => by simp at e⟩
  | succ n ih =>
    obtain ⟨l, hl, hq⟩ := ih fun i hi => h i (by omega)
    obtain ⟨z, hz⟩ := h n (by omega)
    refine ⟨l ++ [z], by simp [hl], fun i y e => ?_⟩
    rw [List.getElem?_append] at e
    split at e
    · exact hq i y e
    · rename_i hi
      have : i = n := by
        rcases Nat.lt_or_ge (i - l.length) 1 with q | q
        · omega
        · rw [List.getElem?_eq_none (by simpa using q)] at e; cases e
      subst this
      simp [hl] at e; subst e; exact hz

/-- a slice's datum, by its elements' -/
def slQ {α : Type} (Q : α → DataW H → Prop) (l : List α) (d : DataW H) : Prop :=
  (l = [] ∧ d = .nil) ∨ ∃ ds rest, d = .slice ds rest ∧ l.length = ds.length ∧ l.length ≤ maxLen ∧ ∀ (i : Nat) (a : α) (x : DataW H), l[i]? = some a → ds[i]? = some x → Q a x

theorem Reads.slice {R : α → AV} {Q : α → DataW H → Prop} (h : Reads enc P W e R Q) (ht : P.underlying t = some (.slice e)) (hc : P.cellsOf t = 1) : Reads enc P W t (fun l : List α => AV.sl .sh (l.map R)) (slQ Q) := by
  refine ⟨fun a => ⟨by rw [hc]; rfl, fun c q => by simp [AV.cells] at q; subst q; rfl⟩, by omega, fun fuel cs x hx => ?_⟩
  rcases Go.Deep.open_slice ht hx with ⟨rfl, rfl⟩ | ⟨a, len, cap, m, n, D, Pl, rfl, hb, hl, hm, hm2, rfl, hel⟩
  · exact ⟨[], .inl ⟨rfl, rfl⟩, by simp [hc], one_cell (.slnil _)⟩
  · simp only [if_true] at hm2
    subst hm2
    obtain ⟨l, hl2, hq⟩ := choose_list (Q := fun i (z : α) => Q z (D i) ∧ ∀ j, j < P.cellsOf e → ∃ v, W.cell? ((a.add (i * P.cellsOf e)).add j) = some v ∧ ∀ c, (R z).cells[j]? = some c → Rep W.heap.size gh0 W v c) len (by
      intro i hi
      obtain ⟨cs', h1, h2⟩ := hel i (by omega)
      obtain ⟨z, h3, h4, h5⟩ := h.rd _ _ _ h2
      obtain ⟨h6, h7⟩ := cells_get h1
      exact ⟨z, h3, fun j hj => ⟨_, h7 j hj, fun c hc => h5 j c hc⟩⟩)
    subst hl2
    refine ⟨l, .inr ⟨_, _, rfl, by simp, by omega, fun i z x h1 h2 => ?_⟩, by simp [hc], one_cell ?_⟩
    · have hi : i < l.length := (List.getElem?_eq_some_iff.1 h1).1
      rw [List.getElem?_map, List.getElem?_range hi] at h2
      simp at h2; subst h2
      exact (hq i z h1).1
    · by_cases h0 : l = []
      · subst h0; exact   .sl0 a m .sh (by simp) hm
      · have hpos := h.pos
        have hlen : 0 < l.length := List.length_pos_iff.2 h0
        obtain ⟨z0, hz0⟩ : ∃ z, l[0]? = some z := ⟨_, List.getElem?_eq_getElem hlen⟩
        obtain ⟨v0, hv0, _⟩ := (hq 0 z0 hz0).2 0 hpos
        have hadd : ∀ (a : Addr) (i : Nat) b off, a = ⟨b, off, none⟩ → a.add i = ⟨b, off + i, none⟩ := fun a i b off q => by subst q; unfold Addr.add; split <;> simp_all
        obtain ⟨b, off, rfl⟩ : ∃ b off, a = ⟨b, off, none⟩ := by
          obtain ⟨b, off, s⟩ := a
          cases s with
          | none => exact ⟨b, off, rfl⟩
          | some s =>
            obtain ⟨b', off', q⟩ := plain_addr hv0
            simp [Addr.add] at q
        have hrl : (l.map R).length = l.length := by simp
        rw [← hrl]
        rw [hadd _ _ b off rfl, hadd _ _ b _ rfl] at hv0
        have hblk : b < W.heap.size := World.block_lt_of_cell? W _ hv0
        have hall : ∀ k, k < l.length * P.cellsOf e → ∃ z v, l[k / P.cellsOf e]? = some z ∧ W.cell? ⟨b, off + k, none⟩ = some v ∧ ∀ c, (R z).cells[k % P.cellsOf e]? = some c → Rep W.heap.size gh0 W v c := by
          intro k hk
          have hki : k / P.cellsOf e < l.length := (Nat.div_lt_iff_lt_mul hpos).2 hk
          obtain ⟨z, hz⟩ : ∃ z, l[k / P.cellsOf e]? = some z := ⟨_, List.getElem?_eq_getElem hki⟩
          obtain ⟨v, hv, hr⟩ := (hq _ z hz).2 (k % P.cellsOf e) (Nat.mod_lt _ hpos)
          have : (Addr.add (Addr.add ⟨b, off, none⟩ (k / P.cellsOf e * P.cellsOf e)) (k % P.cellsOf e)) = ⟨b, off + k, none⟩ := by
            rw [hadd _ _ b off rfl, hadd _ _ b _ rfl]
            have := Nat.div_add_mod k (P.cellsOf e)
            rw [Nat.mul_comm] at this
            rw [Nat.add_assoc, this]
          rw [this] at hv
          exact ⟨z, v, hz, hv, hr⟩
        refine .sl b off m (P.cellsOf e) .sh (l.map R) (fun k => (W.cell? ⟨b, off + k, none⟩).getD undef) (by simp) hpos (by simpa using hl) hm ?_ ?_ ?_
        · intro x hx
          obtain ⟨z, _, rfl⟩ := List.mem_map.1 hx
          exact h.cells z
        · intro k hk
          obtain ⟨z, v, h1, h2, h3⟩ := hall k (by simpa using hk)
          exact ⟨by rw [h2]; rfl, .inl hblk⟩
        · intro i j c hc'
          obtain ⟨z, hz, hzc⟩ := flat_at l i j c hc'
          have hi : i < l.length := (List.getElem?_eq_some_iff.1 hz).1
          have hj : j < P.cellsOf e := by rw [← (h.cells z).1]; exact (List.getElem?_eq_some_iff.1 hzc).1
          obtain ⟨z', v, h1, h2, h3⟩ := hall (i * P.cellsOf e + j) (by
            have : (i + 1) * P.cellsOf e ≤ l.length * P.cellsOf e := Nat.mul_le_mul_right _ hi
            rw [Nat.add_mul] at this; omega)
          have e1 : (i * P.cellsOf e + j) / P.cellsOf e = i := by rw [Nat.mul_comm, Nat.mul_add_div hpos, Nat.div_eq_of_lt hj]; rfl
          have e2 : (i * P.cellsOf e + j) % P.cellsOf e = j := by rw [Nat.mul_comm, Nat.mul_add_mod, Nat.mod_eq_of_lt hj]
          rw [e1, hz] at h1; injection h1 with h1; subst h1
          rw [e2] at h3
          simp only [h2, Option.getD_some]
          exact h3 c hzc

def oneT (d : Option TypeDesc) : Bool := match d with
  | some (.int _) => true
  | some .string => true
  | some .bool => true
  | some (.slice _) => true
  | _ => false
theorem val_one {r : Reach} {b0 : Nat} {v : Value} (hk : oneT (P.underlying t) = true) (h : Value.okWide P W r b0 t v) : v.cells = #[v] := by
  unfold Value.okWide at h
  cases hd : P.underlying t with
  | none => rw [hd] at hk; cases hk
  | some d =>
    rw [hd] at hk h
    cases d <;> simp only [oneT, Bool.false_eq_true] at hk
    all_goals
      simp only at h
      unfold Cell.okWide at h
      rw [hd] at h
      try unfold Cell.ok at h
      try rw [hd] at h
      cases v <;> first | rfl | (simp at h)

theorem Reads.arg1 {R : α → AV} {Q : α → DataW H → Prop} (h : Reads enc P W t R Q) (hR : ∀ a, (R a).cells = [R a]) (hk : oneT (P.underlying t) = true) {r : Reach} {b0 : Nat} {v : Value} {d : DataW H} {p : List MemPlace}
    (hv : Value.okWide P W r b0 t v) (ht : DataW.Trod enc P W 0 (fun _ => true) true t v d p) : ∃ a, Q a d ∧ Rep W.heap.size gh0 W v (R a) ∧ pers (R a) = true ∧ quiet (R a) = true := by
  obtain ⟨fuel, hf⟩ := ht
  rw [val_one hk hv] at hf
  obtain ⟨a, h1, h2, h3⟩ := h.rd _ _ _ hf
  have h4 := (h.cells a).2 (R a) (by rw [hR]; simp)
  simp only [plain, Bool.and_eq_true] at h4
  refine ⟨a, h1, by have := h3 0 (R a) (by rw [hR]; rfl); simpa using this, ?_, h4.2⟩
  have h5 := h4.1
  cases hq : R a <;> rw [hq] at h5 <;> first | rfl | simp [cell1] at h5
theorem Reads.argS {R : α → AV} {Q : α → DataW H → Prop} (h : Reads enc P W t R Q) (hR : ∀ a, ∃ cs, R a = .agg cs) {fs : Array Field} (hk : P.underlying t = some (.struct fs)) {r : Reach} {b0 : Nat} {v : Value} {d : DataW H} {p : List MemPlace}
    (hv : Value.okWide P W r b0 t v) (ht : DataW.Trod enc P W 0 (fun _ => true) true t v d p) : ∃ a, Q a d ∧ Rep W.heap.size gh0 W v (R a) ∧ pers (R a) = true ∧ quiet (R a) = true := by
  obtain ⟨fuel, hf⟩ := ht
  unfold Value.okWide at hv
  rw [hk] at hv
  obtain ⟨vs, rfl, _, _⟩ := hv
  obtain ⟨a, h1, h2, h3⟩ := h.rd _ _ _ hf
  obtain ⟨cs, hcs⟩ := hR a
  have h4 := h.cells a
  rw [hcs] at h4 h3
  simp only [Value.cells, AV.cells] at h2 h3 h4
  refine ⟨a, h1, ?_⟩
  rw [hcs]
  refine ⟨.agg vs cs (by rw [h4.1, ← h2]; simp) h4.2 fun j c hc => ?_, rfl, rfl⟩
  have := h3 j c hc
  simpa [Array.getD_eq_getD_getElem?, List.getD] using this
/-- behind the call the arguments read as they did -/
theorem trodAll_keep (hl : laidOutB P = true) {W' : World} (hb : Below W.heap.size W W') : ∀ {ts : List TypeId} {vs : List Value} {ds : List (DataW H)} {ps : List MemPlace}, (∀ t ∈ ts, P.readableRec t = true ∧ t < P.types.size) →
    DataW.TrodAll enc P W 0 (fun _ => true) true ts vs ds ps → (∀ x ∈ ps, x.block < W.heap.size) → DataW.TrodAll enc P W' 0 (fun b => decide (b < W.heap.size)) true ts vs ds ps
  | [], [], [], ps, _, h, _ => h
  | t :: ts, [], [], ps, _, h, _ => by simp [DataW.TrodAll] at h
  | [], v :: vs, [], ps, _, h, _ => by simp [DataW.TrodAll] at h
  | [], [], d :: ds, ps, _, h, _ => by simp [DataW.TrodAll] at h
  | t :: ts, v :: vs, [], ps, _, h, _ => by simp [DataW.TrodAll] at h
  | t :: ts, [], d :: ds, ps, _, h, _ => by simp [DataW.TrodAll] at h
  | [], v :: vs, d :: ds, ps, _, h, _ => by simp [DataW.TrodAll] at h
  | t :: ts, v :: vs, d :: ds, ps, ht, h, hp => by
    obtain ⟨p, q, h1, h2, rfl⟩ := h
    refine ⟨p, q, Below.trod hl (ht t (by simp)).1 (ht t (by simp)).2 h1 hb fun x hx => hp x (List.mem_append_left _ hx), ?_, rfl⟩
    exact trodAll_keep hl hb (fun t h => ht t (List.mem_cons_of_mem _ h)) h2 fun x hx => hp x (List.mem_append_right _ hx)
theorem laidVars_mem {w : World} : ∀ {laid : List (String × DataW Unit)} {ps : List MemPlace} {n : String} {d : DataW Unit}, DataW.LaidVars P w laid ps → (n, d) ∈ laid →
    ∃ g t cs fuel p, P.globalNamed n = some g ∧ (P.globals[g]?).map (·.type) = some t ∧ w.var? P n = some cs ∧ DataW.trod (fun _ => ()) P w 0 (fun _ => true) false fuel t cs.toList = some (d, p)
  | [], _, _, _, _, hm => by cases hm
  | x :: r, ps, n, d, h, hm => by
    obtain ⟨g, t, cs, fuel, p, q, h1, h2, h3, h4, h5, _⟩ := h
    rcases List.mem_cons.1 hm with e | hm
    · subst e; exact ⟨g, t, cs, fuel, p, h1, h2, h3, h4⟩
    · exact laidVars_mem h5 hm
theorem tabIs_of_mem {name : String} {k : IntKind} {zs : List Int} {laid : List (String × DataW Unit)} {g : Nat} {n : Nat} (hm : (name, Lib.tabData k zs) ∈ laid)
    (hg : P.globalNamed name = some g) (hty : (P.globals[g]?).map (·.type) = some t) (ht : P.underlying t = some (.array n e)) (he : P.underlying e = some (.int k)) (hce : P.cellsOf e = 1) (hct : P.cellsOf t = n)
    (h : laidMet P laid W) : Lib.TabIs P W name k zs := by
  obtain ⟨ps, hl, _⟩ := h
  obtain ⟨g', t', cs, fuel, p, hg', ht', hvar, hd⟩ := laidVars_mem hl hm
  obtain rfl := Option.some.inj (hg.symm.trans hg')
  obtain rfl := Option.some.inj (hty.symm.trans ht')
  unfold Lib.TabIs
  rw [hvar, ← Lib.cells_of_tab ht he hce hct hd]
end
end Go.AI
end
section
/- A statement's arguments, as the evaluation holds them: structs. No program is in sight. -/
namespace Go.AI
open Go.RowKit Go.ChangeShapes Go.Deep Go.Joins
set_option linter.unusedVariables false
section
variable {H : Type} {enc : TypeId × Value → H} {P : Program} {W : World} {t e : TypeId}

theorem cells_sub {W : World} {cs : List Value} {off n : Nat} {l : List AV} (h : ∀ (j : Nat) (c : AV), l[j]? = some c → Rep W.heap.size gh0 W (((cs.drop off).take n).getD j undef) c) (hl : l.length ≤ n) :
    ∀ (j : Nat) (c : AV), l[j]? = some c → Rep W.heap.size gh0 W (cs.getD (off + j) undef) c := by
  intro j c hc
  have := h j c hc
  have hj : j < n := Nat.lt_of_lt_of_le (List.getElem?_eq_some_iff.1 hc).1 hl
  simpa [List.getD, List.getElem?_take, hj, List.getElem?_drop] using this
def st2R {α β : Type} (R0 : α → AV) (R1 : β → AV) (x : α × β) : AV := .agg ((R0 x.1).cells ++ (R1 x.2).cells)
def st2Q {α β : Type} (Q0 : α → DataW H → Prop) (Q1 : β → DataW H → Prop) (x : α × β) (d : DataW H) : Prop := ∃ d0 d1, d = .agg [d0, d1] ∧ Q0 x.1 d0 ∧ Q1 x.2 d1
theorem Reads.struct2 {α β : Type} {R0 : α → AV} {Q0 : α → DataW H → Prop} {R1 : β → AV} {Q1 : β → DataW H → Prop} {f0 f1 : Field} (h0 : Reads enc P W f0.type R0 Q0) (h1 : Reads enc P W f1.type R1 Q1)
    (ht : P.underlying t = some (.struct #[f0, f1])) (o0 : f0.offset = 0) (o1 : f1.offset = P.cellsOf f0.type) (hc : P.cellsOf t = P.cellsOf f0.type + P.cellsOf f1.type) :
    Reads enc P W t (st2R R0 R1) (st2Q Q0 Q1) := by
  refine ⟨fun x => ⟨?_, ?_⟩, by have := h0.pos; omega, fun fuel cs x hx => ?_⟩
  · show ((R0 x.1).cells ++ (R1 x.2).cells).length = P.cellsOf t
    simp only [List.length_append]
    rw [(h0.cells x.1).1, (h1.cells x.2).1, hc]
  · intro c hq
    replace hq : c ∈ (R0 x.1).cells ++ (R1 x.2).cells := hq
    simp only [List.mem_append] at hq
    rcases hq with hq | hq
    · exact (h0.cells x.1).2 c hq
    · exact (h1.cells x.2).2 c hq
  · obtain ⟨y0, y1, n, rfl, hl, t0, t1⟩ := trod_struct2 ht hx
    obtain ⟨a0, q0, l0, r0⟩ := h0.rd _ _ _ t0
    obtain ⟨a1, q1, l1, r1⟩ := h1.rd _ _ _ t1
    have s0 := cells_sub r0 (Nat.le_of_eq (h0.cells a0).1)
    have s1 := cells_sub r1 (Nat.le_of_eq (h1.cells a1).1)
    refine ⟨(a0, a1), ⟨_, _, rfl, q0, q1⟩, hl, fun j c hj => ?_⟩
    replace hj : ((R0 a0).cells ++ ((R1 a1).cells))[j]? = some c := by simpa [st2R, AV.cells] using hj
    rw [List.getElem?_append] at hj
    split at hj
    · have := s0 _ c hj
      rw [o0] at this
      have e : 0 + (j) = j := by have := (h0.cells a0).1; have := (h1.cells a1).1; omega
      rwa [e] at this
    · rename_i hn0
      have := s1 _ c hj
      rw [o1] at this
      have e : (P.cellsOf f0.type) + (j - (R0 a0).cells.length) = j := by have := (h0.cells a0).1; have := (h1.cells a1).1; omega
      rwa [e] at this
def st3R {α β γ : Type} (R0 : α → AV) (R1 : β → AV) (R2 : γ → AV) (x : α × β × γ) : AV := .agg ((R0 x.1).cells ++ (R1 x.2.1).cells ++ (R2 x.2.2).cells)
def st3Q {α β γ : Type} (Q0 : α → DataW H → Prop) (Q1 : β → DataW H → Prop) (Q2 : γ → DataW H → Prop) (x : α × β × γ) (d : DataW H) : Prop := ∃ d0 d1 d2, d = .agg [d0, d1, d2] ∧ Q0 x.1 d0 ∧ Q1 x.2.1 d1 ∧ Q2 x.2.2 d2
theorem Reads.struct3 {α β γ : Type} {R0 : α → AV} {Q0 : α → DataW H → Prop} {R1 : β → AV} {Q1 : β → DataW H → Prop} {R2 : γ → AV} {Q2 : γ → DataW H → Prop} {f0 f1 f2 : Field} (h0 : Reads enc P W f0.type R0 Q0) (h1 : Reads enc P W f1.type R1 Q1) (h2 : Reads enc P W f2.type R2 Q2)
    (ht : P.underlying t = some (.struct #[f0, f1, f2])) (o0 : f0.offset = 0) (o1 : f1.offset = P.cellsOf f0.type) (o2 : f2.offset = P.cellsOf f0.type + P.cellsOf f1.type) (hc : P.cellsOf t = P.cellsOf f0.type + P.cellsOf f1.type + P.cellsOf f2.type) :
    Reads enc P W t (st3R R0 R1 R2) (st3Q Q0 Q1 Q2) := by
  refine ⟨fun x => ⟨?_, ?_⟩, by have := h0.pos; omega, fun fuel cs x hx => ?_⟩
  · show ((R0 x.1).cells ++ (R1 x.2.1).cells ++ (R2 x.2.2).cells).length = P.cellsOf t
    simp only [List.length_append]
    rw [(h0.cells x.1).1, (h1.cells x.2.1).1, (h2.cells x.2.2).1, hc]
  · intro c hq
    replace hq : c ∈ (R0 x.1).cells ++ (R1 x.2.1).cells ++ (R2 x.2.2).cells := hq
    simp only [List.mem_append] at hq
    rcases hq with (hq | hq) | hq
    · exact (h0.cells x.1).2 c hq
    · exact (h1.cells x.2.1).2 c hq
    · exact (h2.cells x.2.2).2 c hq
  · obtain ⟨y0, y1, y2, n, rfl, hl, t0, t1, t2⟩ := trod_struct3 ht hx
    obtain ⟨a0, q0, l0, r0⟩ := h0.rd _ _ _ t0
    obtain ⟨a1, q1, l1, r1⟩ := h1.rd _ _ _ t1
    obtain ⟨a2, q2, l2, r2⟩ := h2.rd _ _ _ t2
    have s0 := cells_sub r0 (Nat.le_of_eq (h0.cells a0).1)
    have s1 := cells_sub r1 (Nat.le_of_eq (h1.cells a1).1)
    have s2 := cells_sub r2 (Nat.le_of_eq (h2.cells a2).1)
    refine ⟨(a0, a1, a2), ⟨_, _, _, rfl, q0, q1, q2⟩, hl, fun j c hj => ?_⟩
    replace hj : ((R0 a0).cells ++ ((R1 a1).cells ++ ((R2 a2).cells)))[j]? = some c := by simpa [st3R, AV.cells] using hj
    rw [List.getElem?_append] at hj
    split at hj
    · have := s0 _ c hj
      rw [o0] at this
      have e : 0 + (j) = j := by have := (h0.cells a0).1; have := (h1.cells a1).1; have := (h2.cells a2).1; omega
      rwa [e] at this
    · rename_i hn0
      rw [List.getElem?_append] at hj
      split at hj
      · have := s1 _ c hj
        rw [o1] at this
        have e : (P.cellsOf f0.type) + (j - (R0 a0).cells.length) = j := by have := (h0.cells a0).1; have := (h1.cells a1).1; have := (h2.cells a2).1; omega
        rwa [e] at this
      · rename_i hn1
        have := s2 _ c hj
        rw [o2] at this
        have e : (P.cellsOf f0.type + P.cellsOf f1.type) + (j - (R0 a0).cells.length - (R1 a1).cells.length) = j := by have := (h0.cells a0).1; have := (h1.cells a1).1; have := (h2.cells a2).1; omega
        rwa [e] at this
def st4R {α β γ δ : Type} (R0 : α → AV) (R1 : β → AV) (R2 : γ → AV) (R3 : δ → AV) (x : α × β × γ × δ) : AV := .agg ((R0 x.1).cells ++ (R1 x.2.1).cells ++ (R2 x.2.2.1).cells ++ (R3 x.2.2.2).cells)
def st4Q {α β γ δ : Type} (Q0 : α → DataW H → Prop) (Q1 : β → DataW H → Prop) (Q2 : γ → DataW H → Prop) (Q3 : δ → DataW H → Prop) (x : α × β × γ × δ) (d : DataW H) : Prop := ∃ d0 d1 d2 d3, d = .agg [d0, d1, d2, d3] ∧ Q0 x.1 d0 ∧ Q1 x.2.1 d1 ∧ Q2 x.2.2.1 d2 ∧ Q3 x.2.2.2 d3
theorem Reads.struct4 {α β γ δ : Type} {R0 : α → AV} {Q0 : α → DataW H → Prop} {R1 : β → AV} {Q1 : β → DataW H → Prop} {R2 : γ → AV} {Q2 : γ → DataW H → Prop} {R3 : δ → AV} {Q3 : δ → DataW H → Prop} {f0 f1 f2 f3 : Field} (h0 : Reads enc P W f0.type R0 Q0) (h1 : Reads enc P W f1.type R1 Q1) (h2 : Reads enc P W f2.type R2 Q2) (h3 : Reads enc P W f3.type R3 Q3)
    (ht : P.underlying t = some (.struct #[f0, f1, f2, f3])) (o0 : f0.offset = 0) (o1 : f1.offset = P.cellsOf f0.type) (o2 : f2.offset = P.cellsOf f0.type + P.cellsOf f1.type) (o3 : f3.offset = P.cellsOf f0.type + P.cellsOf f1.type + P.cellsOf f2.type) (hc : P.cellsOf t = P.cellsOf f0.type + P.cellsOf f1.type + P.cellsOf f2.type + P.cellsOf f3.type) :
    Reads enc P W t (st4R R0 R1 R2 R3) (st4Q Q0 Q1 Q2 Q3) := by
  refine ⟨fun x => ⟨?_, ?_⟩, by have := h0.pos; omega, fun fuel cs x hx => ?_⟩
  · show ((R0 x.1).cells ++ (R1 x.2.1).cells ++ (R2 x.2.2.1).cells ++ (R3 x.2.2.2).cells).length = P.cellsOf t
    simp only [List.length_append]
    rw [(h0.cells x.1).1, (h1.cells x.2.1).1, (h2.cells x.2.2.1).1, (h3.cells x.2.2.2).1, hc]
  · intro c hq
    replace hq : c ∈ (R0 x.1).cells ++ (R1 x.2.1).cells ++ (R2 x.2.2.1).cells ++ (R3 x.2.2.2).cells := hq
    simp only [List.mem_append] at hq
    rcases hq with ((hq | hq) | hq) | hq
    · exact (h0.cells x.1).2 c hq
    · exact (h1.cells x.2.1).2 c hq
    · exact (h2.cells x.2.2.1).2 c hq
    · exact (h3.cells x.2.2.2).2 c hq
  · obtain ⟨y0, y1, y2, y3, n, rfl, hl, t0, t1, t2, t3⟩ := trod_struct4 ht hx
    obtain ⟨a0, q0, l0, r0⟩ := h0.rd _ _ _ t0
    obtain ⟨a1, q1, l1, r1⟩ := h1.rd _ _ _ t1
    obtain ⟨a2, q2, l2, r2⟩ := h2.rd _ _ _ t2
    obtain ⟨a3, q3, l3, r3⟩ := h3.rd _ _ _ t3
    have s0 := cells_sub r0 (Nat.le_of_eq (h0.cells a0).1)
    have s1 := cells_sub r1 (Nat.le_of_eq (h1.cells a1).1)
    have s2 := cells_sub r2 (Nat.le_of_eq (h2.cells a2).1)
    have s3 := cells_sub r3 (Nat.le_of_eq (h3.cells a3).1)
    refine ⟨(a0, a1, a2, a3), ⟨_, _, _, _, rfl, q0, q1, q2, q3⟩, hl, fun j c hj => ?_⟩
    replace hj : ((R0 a0).cells ++ ((R1 a1).cells ++ ((R2 a2).cells ++ ((R3 a3).cells))))[j]? = some c := by simpa [st4R, AV.cells] using hj
    rw [List.getElem?_append] at hj
    split at hj
    · have := s0 _ c hj
      rw [o0] at this
      have e : 0 + (j) = j := by have := (h0.cells a0).1; have := (h1.cells a1).1; have := (h2.cells a2).1; have := (h3.cells a3).1; omega
      rwa [e] at this
    · rename_i hn0
      rw [List.getElem?_append] at hj
      split at hj
      · have := s1 _ c hj
        rw [o1] at this
        have e : (P.cellsOf f0.type) + (j - (R0 a0).cells.length) = j := by have := (h0.cells a0).1; have := (h1.cells a1).1; have := (h2.cells a2).1; have := (h3.cells a3).1; omega
        rwa [e] at this
      · rename_i hn1
        rw [List.getElem?_append] at hj
        split at hj
        · have := s2 _ c hj
          rw [o2] at this
          have e : (P.cellsOf f0.type + P.cellsOf f1.type) + (j - (R0 a0).cells.length - (R1 a1).cells.length) = j := by have := (h0.cells a0).1; have := (h1.cells a1).1; have := (h2.cells a2).1; have := (h3.cells a3).1; omega
          rwa [e] at this
        · rename_i hn2
          have := s3 _ c hj
          rw [o3] at this
          have e : (P.cellsOf f0.type + P.cellsOf f1.type + P.cellsOf f2.type) + (j - (R0 a0).cells.length - (R1 a1).cells.length - (R2 a2).cells.length) = j := by have := (h0.cells a0).1; have := (h1.cells a1).1; have := (h2.cells a2).1; have := (h3.cells a3).1; omega
          rwa [e] at this
end
end Go.AI
end
section
/- The bulk of what came in. -/
namespace Go.Proofs.YtkbghmnjpfdclaaDoor
open Go Go.AI
set_option linter.unusedVariables false
section
variable {H : Type}
theorem bulk_pos (d : DataW H) : 1 ≤ Rows.uptoBulk d := by
  cases d with
  | lit l => cases l <;> simp [Rows.uptoBulk]
  | _ => simp [Rows.uptoBulk]
theorem bulk_all (ds : List (DataW H)) : ds.length ≤ Rows.uptoBulkAll ds ∧ ∀ d ∈ ds, Rows.uptoBulk d ≤ Rows.uptoBulkAll ds := by
  induction ds with
  | nil => simp
  | cons d r ih =>
    have := bulk_pos d
    simp only [Rows.uptoBulkAll, List.length_cons, List.mem_cons]
    refine ⟨by omega, ?_⟩
    rintro x (rfl | hx)
    · omega
    · have := ih.2 x hx; omega
theorem small_str {s : List UInt8} {d : DataW H} (h : d = .lit (.string s) ∧ s.length ≤ maxLen) : s.length ≤ Rows.uptoBulk d := by
  rw [h.1]; simp [Rows.uptoBulk]
theorem slq_small {α : Type} {Q : α → DataW H → Prop} {f : α → Nat} {l : List α} {d : DataW H} (h : slQ Q l d) (hf : ∀ a x, Q a x → f a ≤ Rows.uptoBulk x) : l.length ≤ Rows.uptoBulk d ∧ ∀ a ∈ l, f a ≤ Rows.uptoBulk d := by
  rcases h with ⟨rfl, rfl⟩ | ⟨ds, rest, rfl, hl, _, hq⟩
  · simp
  · simp only [Rows.uptoBulk]
    have := bulk_all ds
    refine ⟨by omega, fun a ha => ?_⟩
    obtain ⟨i, hi⟩ := List.mem_iff_getElem?.1 ha
    have hlt := (List.getElem?_eq_some_iff.1 hi).1
    obtain ⟨x, hx⟩ : ∃ x, ds[i]? = some x := ⟨_, List.getElem?_eq_getElem (by omega)⟩
    have h1 := hf a x (hq i a x hi hx)
    have h2 := this.2 x (List.mem_of_getElem? hx)
    omega
theorem small_mod {m : List UInt8 × List UInt8} {d : DataW H} (h : st2Q (fun s d => d = .lit (.string s) ∧ s.length ≤ maxLen) (fun s d => d = .lit (.string s) ∧ s.length ≤ maxLen) m d) : m.1.length + m.2.length ≤ Rows.uptoBulk d := by
  obtain ⟨d0, d1, rfl, q0, q1⟩ := h
  have := small_str q0
  have := small_str q1
  simp only [Rows.uptoBulk, Rows.uptoBulkAll]; omega
end
end Go.Proofs.YtkbghmnjpfdclaaDoor
end
section
/- The frame of TlogProves: from the evaluation to the given statement. -/
namespace Go.Proofs.YtkbghmnjpfdclaaDoor.tlogProves
open Go Go.AI Go.ChangeShapes Go.WideShapes Go.ChangeAt Go.RowKit
set_option linter.unusedVariables false

theorem own : ownKnob Tryd.prog.godebug = none := by kernel_rfl
theorem mixed : Tryd.prog.follows .mixedOrders = true := by kernel_rfl
theorem laidOut : laidOutB Tryd.prog = true := by kernel_rfl

theorem walk (a0 : List (List UInt8)) (a1 : Int) (a2 : Int) (a3 : Int) (v0 v1 v2 v3 : Value) (W : World) (hl : Go.Proofs.Tryd.Ai.Laid W) (r0 : Rep W.heap.size gh0 W v0 (.sl .sh (a0.map fun l => .sl .sh (l.map .u8)))) (r1 : Rep W.heap.size gh0 W v1 (.int .i64 a1)) (r2 : Rep W.heap.size gh0 W v2 (.int .i64 a2)) (r3 : Rep W.heap.size gh0 W v3 (.int .i64 a3))
    (he : Go.Proofs.Tryd.Ai.ev 6 [.sl .sh (a0.map fun l => .sl .sh (l.map .u8)), .int .i64 a1, .int .i64 a2, .int .i64 a3] [] = some (.bool true, [])) :
    Calls Tryd.prog 6 #[v0, v1, v2, v3] W fun e w' => e = .returned (.bool true) ∧ Below W.heap.size W w' :=
  Go.AI.top (s' := []) mixed rfl (Go.Proofs.Tryd.Ai.T_ok hl) (by rfl)
    (fun j c h => by
      match j, h with
      | 0, h => simp at h; subst h; exact ⟨r0, rfl, rfl⟩
      | 1, h => simp at h; subst h; exact ⟨r1, rfl, rfl⟩
      | 2, h => simp at h; subst h; exact ⟨r2, rfl, rfl⟩
      | 3, h => simp at h; subst h; exact ⟨r3, rfl, rfl⟩
      | j + 4, h => simp at h)
    he

/-- the table of powers, as the row lays it -/
theorem laid_of {W : World} (hL : laidMet Tryd.prog Rows.tlogProvesUptoRow.laid W) : Go.Proofs.Tryd.Ai.Laid W :=
  tabIs_of_mem (g := 1) (t := 168) (e := 121) (n := 20) (by
    have : ("internal/strconv.uint64pow10", Rows.laid_internal_strconv_uint64pow10) ∈ Rows.tlogProvesUptoRow.laid := by simp [Rows.tlogProvesUptoRow]
    have e : (Rows.laid_internal_strconv_uint64pow10 : DataW Unit) = Lib.tabData .u64 Lib.pow10Tab := by kernel_rfl
    rw [e] at this; exact this) (by kernel_rfl) (by kernel_rfl) Tryd.underlying168 Tryd.underlying121 (by kernel_rfl) (by kernel_rfl) hL

theorem readable : ∀ t ∈ Tryd.f6.params.toList, Tryd.prog.readableRec t = true ∧ t < Tryd.prog.types.size := by
  rw [Tryd.params6]
  intro t ht
  simp only [List.mem_cons, List.mem_nil_iff, or_false] at ht
  rcases ht with rfl | rfl | rfl | rfl <;> exact ⟨by kernel_rfl, of_decide_eq_true (by kernel_rfl)⟩

set_option maxRecDepth 100000 in
theorem contract (H : Type) (enc : TypeId × Value → H) (W : World) (base : Nat) (args : Array Value) (ds gs : List (DataW H)) (before : List MemPlace)
    (hval : ∀ (j : Nat) t v, Tryd.f6.params[j]? = some t → args[j]? = some v → Value.okWide Tryd.prog W .any base t v)
    (hW : DataW.Whole enc Tryd.prog Tryd.f6.params.toList Rows.tlogProvesSpec.vars false W args.toList ds gs before) (hcond : ∀ k, (Rows.OpenSpec.upto Rows.tlogProvesSpec).cond = some k → k H (ds ++ gs) = true) (hl : Go.Proofs.Tryd.Ai.Laid W) :
    Calls Tryd.prog 6 args W fun e W' => ∃ v, e = .returned v ∧ Rows.tlogProvesSpec.post enc Tryd.prog Tryd.f6 false true false false W args v W' := by
  have hW' := hW
  obtain ⟨p, q, hA0, hV, rfl, hfz, hnd⟩ := hW
  have hA : DataW.TrodAll enc Tryd.prog W 0 (fun _ => true) true Tryd.f6.params.toList args.toList ds p := hA0
  have hAk := hA
  rw [Tryd.params6] at hA hval
  obtain ⟨v0, vs0, d0, ds0, p0, q0, hargs0, rfl, rfl, h0, r0⟩ := trodAll_cons hA
  obtain ⟨v1, vs1, d1, ds1, p1, q1, hargs1, rfl, rfl, h1, r1⟩ := trodAll_cons r0
  obtain ⟨v2, vs2, d2, ds2, p2, q2, hargs2, rfl, rfl, h2, r2⟩ := trodAll_cons r1
  obtain ⟨v3, vs3, d3, ds3, p3, q3, hargs3, rfl, rfl, h3, r3⟩ := trodAll_cons r2
  obtain ⟨e1, e2, e3⟩ := trodAll_nil r3
  obtain rfl : args = #[v0, v1, v2, v3] := by cases args; simp_all
  subst e2 e3
  obtain ⟨rfl, rfl⟩ := trodVars_none hV
  obtain ⟨a0, Q0, R0, _⟩ := (Reads.slice (Reads.slice (Reads.u8 Tryd.underlying5 (by kernel_rfl)) Tryd.underlying36 (by kernel_rfl)) Tryd.underlying31 (by kernel_rfl)).arg1 (enc := enc) (W := W) (fun _ => rfl) (by kernel_rfl) (hval 0 31 v0 rfl rfl) h0
  obtain ⟨a1, Q1, R1, _⟩ := (Reads.int Tryd.underlying3 (by kernel_rfl)).arg1 (enc := enc) (W := W) (fun _ => rfl) (by kernel_rfl) (hval 1 3 v1 rfl rfl) h1
  obtain ⟨a2, Q2, R2, _⟩ := (Reads.int Tryd.underlying3 (by kernel_rfl)).arg1 (enc := enc) (W := W) (fun _ => rfl) (by kernel_rfl) (hval 2 3 v2 rfl rfl) h2
  obtain ⟨a3, Q3, R3, _⟩ := (Reads.int Tryd.underlying3 (by kernel_rfl)).arg1 (enc := enc) (W := W) (fun _ => rfl) (by kernel_rfl) (hval 3 3 v3 rfl rfl) h3
  have hb : Rows.uptoBulkAll ([d0, d1, d2, d3] ++ []) ≤ 1048576 := of_decide_eq_true (hcond _ rfl)
  simp only [List.append_nil, Rows.uptoBulkAll] at hb
  have s0 : a0.length ≤ 1048576 ∧ ∀ s ∈ a0, s.length ≤ 1048576 := by have := slq_small (f := List.length) Q0 (fun a x h => (slq_small (f := fun _ => 0) h (fun a x h => Nat.zero_le _)).1); exact ⟨by omega, fun s hs => by have := this.2 s hs; omega⟩
  have hlt : ∀ x ∈ (p0 ++ p1 ++ p2 ++ p3 : List MemPlace), True := fun _ _ => trivial
  refine (walk a0 a1 a2 a3 v0 v1 v2 v3 W hl R0 R1 R2 R3 (by have := Go.Proofs.Tryd.Ai.provesLaw_eq a0 a1 a2 a3 s0 []; exact this)).mono fun e W' ⟨he, bel⟩ => ?_
  subst he
  exact ⟨_, rfl, _, _, _, [], _, [], hW', trodAll_mk1 (shut_bool Tryd.underlying4 _), trodAll_keep laidOut bel readable hAk (fun x hx => by simpa using hW'.lt x (by simpa using hx)), rfl, bel.frame _, fun h => by cases h⟩

noncomputable def laidWorld (os : Os) : World := World.laidAll Tryd.prog os Rows.tlogProvesUptoRow.laid
theorem laid_met (os : Os) : laidMet Tryd.prog Rows.tlogProvesUptoRow.laid ((laidWorld os).forCall (fun _ _ => 0) ⟨#[], #[.slice none 0 0, .int .i64 0, .int .i64 0, .int .i64 0], []⟩).memory :=
  laidMet_laidAll _ (by kernel_rfl) (by kernel_rfl)
theorem reads (os : Os) {H : Type} (enc : TypeId × Value → H) : ∃ places, DataW.whole enc Tryd.prog ((laidWorld os).forCall (fun _ _ => 0) ⟨#[], #[.slice none 0 0, .int .i64 0, .int .i64 0, .int .i64 0], []⟩).memory Tryd.f6.params.toList Rows.tlogProvesSpec.vars false (#[.slice none 0 0, .int .i64 0, .int .i64 0, .int .i64 0] : Array Value).toList 8 = some ([.nil, .lit (.int .i64 0), .lit (.int .i64 0), .lit (.int .i64 0)], [], places) :=
  ⟨[], by kernel_rfl⟩
theorem witness (os : Os) {H : Type} (enc : TypeId × Value → H) : ∃ (w : World) (tape : Tape) (i : Input), w.os = os ∧ (w.forCall tape i).Shaped Tryd.checked.prog ∧ i.vars = [] ∧ Input.okWide Tryd.checked.prog (w.forCall tape i) .any w.heap.size 6 i ∧
    (Rows.OpenSpec.upto Rows.tlogProvesSpec).preRow enc Tryd.checked.prog Tryd.f6 Rows.tlogProvesUptoRow.domain false Rows.tlogProvesUptoRow.laid (w.forCall tape i).memory i.args ∧ ({} : Assume).holds Tryd.checked.prog (lone (Frame.enter Tryd.checked.prog 6 i.args .normal) [] (w.forCall tape i)) := by
  obtain ⟨places, hx⟩ := reads os enc
  have hok : Input.okWideB Tryd.checked.prog ((laidWorld os).forCall (fun _ _ => 0) ⟨#[], #[.slice none 0 0, .int .i64 0, .int .i64 0, .int .i64 0], []⟩) 6 ⟨#[], #[.slice none 0 0, .int .i64 0, .int .i64 0, .int .i64 0], []⟩ = true := by kernel_rfl
  exact ⟨laidWorld os, fun _ _ => 0, ⟨#[], #[.slice none 0 0, .int .i64 0, .int .i64 0, .int .i64 0], []⟩, World.laidAll_os _ _ _, World.shaped_of_ZipB (by kernel_rfl) (by kernel_rfl), (Input.okWide_of_okWideB (base := 0) hok).1, (Input.okWide_of_okWideB hok).2,
    OpenSpec.preRow_of_cond 8 hx (by kernel_rfl) (fun k hk => by have e : k = Rows.uptoSmall := (Option.some.inj (show some Rows.uptoSmall = some k from hk)).symm; rw [e]; simp [Rows.uptoSmall, Rows.uptoBulkAll, Rows.uptoBulk]) (by kernel_rfl) (laid_met os), by
    simp only [Assume.holds]
    exact ⟨by simp, by simp, fun _ => Modest.zero, by simp, by simp⟩⟩

set_option maxRecDepth 100000 in
theorem lifted (os : Os) (started : os.Started) (H : Type) (enc : TypeId × Value → H) (F : Stop.Interp) :
    ReturnsInHanded {} Tryd.checked os 6 .any ((Rows.OpenSpec.upto Rows.tlogProvesSpec).preRow enc Tryd.prog Tryd.f6 Rows.tlogProvesUptoRow.domain false Rows.tlogProvesUptoRow.laid) (((Rows.OpenSpec.upto Rows.tlogProvesSpec).at F).post enc Tryd.prog Tryd.f6 false true false false) := by
  refine returnsInHanded_of_row (C := Tryd.checked) (s := (Rows.OpenSpec.upto Rows.tlogProvesSpec)) own started (by kernel_rfl) Tryd.func6 (witness os enc) ?_
  intro W base args ds gs before hval hW _ hcond _ hL _ _
  exact contract H enc W base args ds gs before hval hW hcond (laid_of (by rw [← MakeChecks.laidMetH_plain _ _ _ (by kernel_rfl)]; exact hL))

theorem said : Rows.TlogProvesUptoSaid :=
  OpenClaim.holds_of_cond 6 Tryd.f6 rfl rfl rfl rfl rfl rfl rfl ⟨rfl, rfl, rfl, rfl, rfl⟩ rfl rfl rfl rfl rfl (by kernel_rfl) Tryd.func6 (by kernel_rfl)
    (of_decide_eq_true (by kernel_rfl)) (by unfold Func.isWrapper; first | (rw [if_pos (by decide +kernel)]; kernel_rfl) | (rw [if_neg (by decide +kernel)]; exact ⟨rfl, rfl⟩))
    (fun os started H enc _ F => by rw [OpenClaim.pre_eq_preRow]; exact lifted os started H enc F)

theorem plain (f : FuncId) (fn : Func) (hf : Tryd.pinned.checked.prog.funcNamed "mews/mewslaw7.TlogProves" = some f) (hfn : Tryd.pinned.checked.prog.funcs[f]? = some fn) :
    true = Tryd.pinned.checked.prog.looks [] ∧ ∀ (j : Nat) t, fn.params[j]? = some t → Tryd.pinned.checked.prog.wantsStandIn t = false := by
  obtain rfl : f = 6 := Option.some.inj ((show Tryd.prog.funcNamed "mews/mewslaw7.TlogProves" = some 6 by kernel_rfl).symm.trans hf) |>.symm
  obtain rfl : fn = Tryd.f6 := (Option.some.inj (Tryd.func6.symm.trans hfn)).symm
  refine ⟨by kernel_rfl, fun j t ht => ?_⟩
  have hm : t ∈ Tryd.f6.params.toList := Array.mem_toList_iff.2 (Array.mem_of_getElem? ht)
  rw [Tryd.params6] at hm
  simp only [List.mem_cons, List.mem_nil_iff, or_false] at hm
  rcases hm with rfl | rfl | rfl | rfl
  · exact (show Tryd.prog.wantsStandIn 31 = false by kernel_rfl)
  · exact (show Tryd.prog.wantsStandIn 3 = false by kernel_rfl)
  · exact (show Tryd.prog.wantsStandIn 3 = false by kernel_rfl)
  · exact (show Tryd.prog.wantsStandIn 3 = false by kernel_rfl)

/-- the card -/
theorem card : Rows.TlogProvesUptoCardSaid :=
  Claim7.holds_tied_plain_at .later [] _ _ _ _ said (fun _ h => by cases h) (by kernel_rfl) (fun _ h => by cases h) tlogProvesUpto_row_tie rfl ⟨rfl, rfl⟩ (by kernel_rfl) rfl plain (by kernel_rfl)
end Go.Proofs.YtkbghmnjpfdclaaDoor.tlogProves
end
