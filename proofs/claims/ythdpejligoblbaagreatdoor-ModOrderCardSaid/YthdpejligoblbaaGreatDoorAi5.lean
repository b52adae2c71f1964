/- Part 5 of a proof: a Go function is evaluated on abstract values (texts M3 .. FOrder); no conditions beyond those of each theorem. -/
import Derived.Test.YthdpejligoblbaaGreatDoorAi4
import Derived.OpenShut
import Derived.Carry
import Derived.Deep.Slices
import Derived.ChangeOld
import Derived.Lib.LaidTab
import Derived.Test.YthdpejligoblbaaGreatDoorCards
import Derived.Test.YthdpejligoblbaaGreatDoorTie
import Derived.WalkKit
import Derived.ProofKit
import Derived.Below
import Derived.Deep.DeepHandedRow
import Derived.Lay
import Derived.MakeChecks
set_option linter.all false
set_option linter.unusedVariables false
set_option linter.unusedSimpArgs false
set_option linter.unnecessarySimpa false
section
/- mod: versions are read. -/
namespace Go.Proofs.Tryz.Ai
open Go Go.AI Go.Proofs
set_option maxHeartbeats 2000000
set_option linter.unusedVariables false

theorem identifiers_eq (p : List UInt8) (hl : p.length ≤ 2 ^ 39) (σ) : ev 102 [.str p] σ = some (.bool (idsB p), σ) := by
  have hS := Split1_eq p hl 46
  have hw : ∀ τ : List (List AV), ev 68 [.str [45]] (σ ++ τ) = some (.fn 109 [.gp (σ.length + τ.length) 0 (some (9, 1))], σ ++ (τ ++ [[.str [45]]])) := by
    intro τ; rw [word_eq]; simp
  obtain ⟨L, hL⟩ : ∃ L, splitB 46 p = L := ⟨_, rfl⟩
  have hm : ∀ x ∈ L, x.length ≤ 2 ^ 39 := fun x hx => Nat.le_trans (splitB_le (hL ▸ hx)) hl
  have hn : L.length ≤ 2 ^ 40 := by rw [← hL]; have := splitB_many 46 p; omega
  have hAll : idsB p = L.all idB := by unfold idsB; rw [hL]
  rw [hL] at hS
  refine EV_post rfl Tryz.func102 rfl (by simp [Tryz.ntmps102]) (by kernel_rfl) (by kernel_rfl) ?_
  simp (maxSteps := 4000000) [List.getElem?_cons_zero, List.getElem?_cons_succ, hS]
  refine Post_loop (I := fun q : Nat × List (List AV) => ⟨[(6, .sl (.ex 9 1) (L.map .str)), (7, .int .i64 L.length), (8, .int .i64 q.1)], [], σ ++ q.2⟩) (Pr := fun q => q.1 ≤ L.length ∧ ∀ x ∈ L.take q.1, idB x = true) (μ := fun q => L.length - q.1) (a := (0, [])) (by simp) (by simp) ?_
  rintro ⟨i, τ⟩ ⟨hi, ha⟩
  simp only at hi ha ⊢
  by_cases hc : i < L.length
  · obtain ⟨x, hx⟩ : ∃ x, L[i] = x := ⟨_, rfl⟩
    have hx2 : L[i]? = some x := by rw [← hx]; exact List.getElem?_eq_getElem hc
    have hxl := hm x (hx ▸ List.getElem_mem hc)
    have h1 := allW_eq x [45] (by omega) (σ.length + τ.length) (some (9, 1)) (σ ++ (τ ++ [[.str [45]]])) (by simp)
    have h2 := allD_eq x (by omega) (σ ++ (τ ++ [[.str [45]]]))
    have h3 := plain_eq x (σ ++ (τ ++ [[.str [45]]]))
    have w6 : IntKind.i64.wrap ((i : Int) + 1) = (i : Int) + 1 := wrap64 (by omega)
    by_cases hq : idB x = true
    · have hn : ∀ y ∈ L.take (i + 1), idB y = true := take_all hc ha (by rw [hx]; exact hq)
      unfold idB at hq
      simp only [Bool.and_eq_true, Bool.not_eq_true'] at hq
      by_cases hd : allB isD x = true
      · have hp : plainB x = true := by simpa [hd] using hq.2
        simp (maxSteps := 4000000) [List.getElem?_cons_zero, List.getElem?_cons_succ, -getElem?_pos, hc, hx2, hw, h1, h2, h3, hq.1, hd, hp, w6]
        exact ⟨i + 1, ⟨by omega, hn⟩, by omega, by simp⟩
      · simp (maxSteps := 4000000) [List.getElem?_cons_zero, List.getElem?_cons_succ, -getElem?_pos, hc, hx2, hw, h1, h2, h3, hq.1, hd, w6]
        exact ⟨i + 1, ⟨by omega, hn⟩, by omega, by simp⟩
    · have hf : idsB p = false := by rw [hAll, Bool.eq_false_iff]; intro h; exact hq (List.all_eq_true.1 h _ (hx ▸ List.getElem_mem hc))
      by_cases ha : allB (wordB [45]) x = true
      · by_cases hd : allB isD x = true
        · have hp : plainB x = false := by simpa [idB, ha, hd] using hq
          simp (maxSteps := 4000000) [List.getElem?_cons_zero, List.getElem?_cons_succ, -getElem?_pos, hc, hx2, hw, h1, h2, h3, ha, hd, hp, hf, Tryz.results102]
        · exact absurd (by simp [idB, ha, hd]) hq
      · simp (maxSteps := 4000000) [List.getElem?_cons_zero, List.getElem?_cons_succ, -getElem?_pos, hc, hx2, hw, h1, h2, h3, ha, hf, Tryz.results102]
  · have hi' : i = L.length := by omega
    subst hi'
    rw [List.take_length] at ha
    have ht : idsB p = true := by rw [hAll]; exact List.all_eq_true.2 ha
    simp (maxSteps := 4000000) [List.getElem?_cons_zero, List.getElem?_cons_succ, ht, Tryz.results102]

/-- what is read, as the program holds it -/
def verA : Option Ver → AV
  | some v => .agg [.int .i64 v.ma, .int .i64 v.mi, .int .i64 v.pa, .str v.pre]
  | none => .agg [.int .i64 0, .int .i64 0, .int .i64 0, .str []]
theorem coreOf_no {r : List UInt8} (h : (splitB 46 r).length ≠ 3) : coreOf r = none := by
  unfold coreOf
  split
  · rename_i a b c hs; rw [hs] at h; simp at h
  · rfl
theorem read_eq (s : List UInt8) (hl : s.length ≤ 2 ^ 39) (σ) : ev 50 [.str s] σ = some (.tup [verA (readB s), .bool (readB s).isSome], σ) := by
  have hp := fun a b => HasPrefix_eq a b
  refine EV_post rfl Tryz.func50 rfl (by simp [Tryz.ntmps50]) (by kernel_rfl) (by kernel_rfl) ?_
  by_cases h60 : 60 < s.length
  · have hr : readB s = none := by simp [readB, h60]
    simp (maxSteps := 4000000) [List.getElem?_cons_zero, List.getElem?_cons_succ, h60, hr, verA, Tryz.results50]
  · cases s with
    | nil => simp (maxSteps := 4000000) [List.getElem?_cons_zero, List.getElem?_cons_succ, hp, readB, verA, Tryz.results50]
    | cons c r =>
      by_cases hc : c = 118
      · subst hc
        have hr : readB (118 :: r) = match coreOf (cutB 45 r).1 with
            | none => none
            | some (x, y, z) => if (cutB 45 r).2.2 && !idsB (cutB 45 r).2.1 then none else some ⟨x, y, z, (cutB 45 r).2.1⟩ := by
          unfold readB; rw [if_neg h60]; rfl
        simp only [List.length_cons] at h60 hl
        have hcl := cutB_le 45 r
        obtain ⟨⟨k, p, b⟩, hk⟩ : ∃ x, cutB 45 r = x := ⟨_, rfl⟩
        have hC := Cut1_eq r (by omega) 45
        rw [hk] at hC hr hcl
        simp only at hC hr hcl
        have hS := Split1_eq k (by omega) 46
        have hI := identifiers_eq p (by omega)
        have h61 : ¬ (60 : Int) < (r.length : Int) + 1 := by omega
        have v1 : IntKind.i64.wrap ((r.length : Int) + 1) = (r.length : Int) + 1 := wrap64 (by omega)
        have v2 : List.isPrefixOf [(118 : UInt8)] (118 :: r) = true := by simp [List.isPrefixOf]
        by_cases h3 : (splitB 46 k).length = 3
        · obtain ⟨x, y, z, hxyz⟩ : ∃ x y z, splitB 46 k = [x, y, z] := by
            match hq : splitB 46 k, h3 with
            | [x, y, z], _ => exact ⟨x, y, z, rfl⟩
          have hmem : ∀ w ∈ splitB 46 k, w.length ≤ 2 ^ 39 := fun w hw => by have := splitB_le hw; omega
          rw [hxyz] at hS hmem
          have nx := number_eq x (by have := hmem x (by simp); omega)
          have ny := number_eq y (by have := hmem y (by simp); omega)
          have nz := number_eq z (by have := hmem z (by simp); omega)
          have hco : coreOf k = match numB x, numB y, numB z with
              | some x, some y, some z => some (x, y, z)
              | _, _, _ => none := by simp only [coreOf, hxyz]; cases numB x <;> cases numB y <;> cases numB z <;> rfl
          rw [hco] at hr
          simp only [List.map_cons, List.map_nil] at hS
          cases ex : numB x with
          | none =>
            rw [ex] at nx hr
            simp (maxSteps := 4000000) [List.getElem?_cons_zero, List.getElem?_cons_succ, hp, v1, v2, h61, hC, hS, nx, ny, nz, hr, verA, Tryz.results50]
          | some x' =>
            cases ey : numB y with
            | none =>
              rw [ex] at nx; rw [ey] at ny; rw [ex, ey] at hr
              simp (maxSteps := 4000000) [List.getElem?_cons_zero, List.getElem?_cons_succ, hp, v1, v2, h61, hC, hS, nx, ny, nz, hr, verA, Tryz.results50]
            | some y' =>
              cases ez : numB z with
              | none =>
                rw [ex] at nx; rw [ey] at ny; rw [ez] at nz; rw [ex, ey, ez] at hr
                simp (maxSteps := 4000000) [List.getElem?_cons_zero, List.getElem?_cons_succ, hp, v1, v2, h61, hC, hS, nx, ny, nz, hr, verA, Tryz.results50]
              | some z' =>
                rw [ex] at nx; rw [ey] at ny; rw [ez] at nz; rw [ex, ey, ez] at hr
                simp only at hr
                cases b with
                | false => simp (maxSteps := 4000000) [List.getElem?_cons_zero, List.getElem?_cons_succ, hp, v1, v2, h61, hC, hS, nx, ny, nz, hr, verA, Tryz.results50]
                | true =>
                  by_cases hi : idsB p = true
                  · rw [hi] at hr hI
                    simp (maxSteps := 4000000) [List.getElem?_cons_zero, List.getElem?_cons_succ, hp, v1, v2, h61, hC, hS, nx, ny, nz, hI, hr, verA, Tryz.results50]
                  · have hi : idsB p = false := by simpa using hi
                    rw [hi] at hr hI
                    simp (maxSteps := 4000000) [List.getElem?_cons_zero, List.getElem?_cons_succ, hp, v1, v2, h61, hC, hS, nx, ny, nz, hI, hr, verA, Tryz.results50]
        · rw [coreOf_no h3] at hr
          have h3' : ¬ ((splitB 46 k).length : Int) = 3 := by omega
          simp (maxSteps := 4000000) [List.getElem?_cons_zero, List.getElem?_cons_succ, hp, v1, v2, h61, hC, hS, h3, hr, verA, Tryz.results50]
      · have hr : readB (c :: r) = none := by unfold readB; rw [if_neg h60]; simp [hc]
        have v2 : List.isPrefixOf [(118 : UInt8)] (c :: r) = false := by simp [List.isPrefixOf]; exact fun e => hc e.symm
        simp only [List.length_cons] at h60
        have h61 : ¬ (60 : Int) < (r.length : Int) + 1 := by omega
        simp (maxSteps := 4000000) [List.getElem?_cons_zero, List.getElem?_cons_succ, hp, h61, v2, hr, verA, Tryz.results50]
end Go.Proofs.Tryz.Ai
end
section
/- mod.Compare. -/
namespace Go.Proofs.Tryz.Ai
open Go Go.AI Go.Proofs
set_option maxHeartbeats 2000000
set_option linter.unusedVariables false

def orL (l : List Int) : Int := l.foldr orI 0
def intC (x y : Int) : Int := if x < y then -1 else if y < x then 1 else 0
theorem intC_nat (a b : Nat) : intC a b = natC a b := by unfold intC natC; simp only [Int.ofNat_lt]
theorem orI_zero (x : Int) : orI x 0 = x := by unfold orI; split <;> omega
theorem orL_drop (l : List Int) (i : Nat) (h : ∀ x ∈ l.take i, x = 0) : orL l = orL (l.drop i) := by
  induction l generalizing i with
  | nil => simp
  | cons a r ih =>
    cases i with
    | zero => rfl
    | succ i =>
      simp only [List.take_succ_cons, List.mem_cons, forall_eq_or_imp] at h
      rw [List.drop_succ_cons, ← ih i h.2]
      simp [orL, orI, h.1]
theorem cmpOr_eq (l : List Int) (hl : l.length ≤ 2 ^ 40) (σ) : ev 52 [.sl .sh (l.map (.int .i64))] σ = some (.int .i64 (orL l), σ) := by
  refine EV_post rfl Tryz.func52 rfl (by simp [Tryz.ntmps52]) (by kernel_rfl) (by kernel_rfl) ?_
  simp (maxSteps := 4000000) (disch := omega) [dT, dF, wrap64]
  refine Post_loop (I := fun i : Nat => ⟨[(3, .int .i64 0), (6, .sl .sh (l.map (.int .i64))), (7, .int .i64 l.length), (8, .int .i64 i)], [], σ⟩) (Pr := fun i => i ≤ l.length ∧ ∀ x ∈ l.take i, x = 0) (μ := fun i => l.length - i) (a := 0) (by simp) (by simp) ?_
  rintro i ⟨hi, hn⟩
  by_cases hc : i < l.length
  · obtain ⟨x, hx⟩ : ∃ x, l[i] = x := ⟨_, rfl⟩
    have hx2 : l[i]? = some x := by rw [← hx]; exact List.getElem?_eq_getElem hc
    have w6 : IntKind.i64.wrap ((i : Int) + 1) = (i : Int) + 1 := wrap64 (by omega)
    have hd := orL_drop l i hn
    rw [List.drop_eq_getElem_cons hc, hx] at hd
    by_cases hq : x = 0
    · simp (maxSteps := 4000000) [List.getElem?_cons_zero, List.getElem?_cons_succ, -getElem?_pos, hc, hx2, hq, w6]
      exact ⟨i + 1, ⟨by omega, take_all (p := id) hc hn (hx.trans hq)⟩, by omega, by simp⟩
    · have h2 : orL l = x := by rw [hd]; simp [orL, orI, hq]
      simp (maxSteps := 4000000) [List.getElem?_cons_zero, List.getElem?_cons_succ, -getElem?_pos, hc, hx2, hq, h2, Tryz.results52]
  · have hi' : i = l.length := by omega
    subst hi'
    have hd := orL_drop l _ hn
    simp only [List.drop_length] at hd
    have h2 : orL l = 0 := hd
    simp (maxSteps := 4000000) [List.getElem?_cons_zero, List.getElem?_cons_succ, h2, Tryz.results52]
theorem cmpInt_eq (x y : Int) (σ) : ev 53 [.int .i64 x, .int .i64 y] σ = some (.int .i64 (intC x y), σ) := by
  have hn : ∀ z σ, ev 104 [.int .i64 z] σ = some (.bool false, σ) := by
    intro z σ
    refine EV_post rfl Tryz.func104 rfl (by simp [Tryz.ntmps104]) (by kernel_rfl) (by kernel_rfl) ?_
    simp (maxSteps := 4000000) [List.getElem?_cons_zero, List.getElem?_cons_succ, Tryz.results104]
  refine EV_post rfl Tryz.func53 rfl (by simp [Tryz.ntmps53]) (by kernel_rfl) (by kernel_rfl) ?_
  by_cases h1 : x < y
  · simp (maxSteps := 4000000) [List.getElem?_cons_zero, List.getElem?_cons_succ, hn, h1, intC, Tryz.results53]
  · by_cases h2 : y < x
    · simp (maxSteps := 4000000) [List.getElem?_cons_zero, List.getElem?_cons_succ, hn, h1, h2, intC, Tryz.results53]
    · simp (maxSteps := 4000000) [List.getElem?_cons_zero, List.getElem?_cons_succ, hn, h1, h2, intC, Tryz.results53]
theorem cmpNat_eq (x y : Nat) (σ) : ev 53 [.int .i64 x, .int .i64 y] σ = some (.int .i64 (natC x y), σ) := by rw [cmpInt_eq, intC_nat]
theorem Compare_eq (a b : List UInt8) (σ) : ev 51 [.str a, .str b] σ = some (.int .i64 (bytesC a b), σ) := by
  have h1 : ∀ σ, ev 103 [.str a, .str b] σ = some (.int .i64 (bytesC a b), σ) := fun σ => by rw [ev_compare]; simp [compareT, compareBytes_eq]
  refine EV_post rfl Tryz.func51 rfl (by simp [Tryz.ntmps51]) (by kernel_rfl) (by kernel_rfl) ?_
  simp (maxSteps := 4000000) [List.getElem?_cons_zero, List.getElem?_cons_succ, h1, Tryz.results51]
theorem CompareFunc_eq (L M : List (List UInt8)) (hL : L.length ≤ 2 ^ 40) (hM : M.length ≤ 2 ^ 40) (g : Nat) (cap : List AV) (c : List UInt8 → List UInt8 → Int) (hg : g < 100000) (σ : List (List AV))
    (hp : ∀ a ∈ L, ∀ b ∈ M, ev g (.str a :: .str b :: cap) σ = some (.int .i64 (c a b), σ)) :
    ev 105 [.sl .sh (L.map .str), .sl .sh (M.map .str), .fn g cap] σ = some (.int .i64 (lexC c L M), σ) := by
  refine EV_post rfl Tryz.func105 rfl (by simp [Tryz.ntmps105]) (by kernel_rfl) (by kernel_rfl) ?_
  simp (maxSteps := 4000000) (disch := omega) [dT, dF, wrap64]
  refine Post_loop (I := fun i : Nat => ⟨[(0, .sl .sh (L.map .str)), (1, .sl .sh (M.map .str)), (2, .fn g cap), (11, .sl .sh (L.map .str)), (12, .int .i64 L.length), (13, .int .i64 i)], [], σ⟩)
    (Pr := fun i => i ≤ L.length ∧ i ≤ M.length ∧ lexC c L M = lexC c (L.drop i) (M.drop i)) (μ := fun i => L.length - i) (a := 0) (by simp) (by simp) ?_
  rintro i ⟨hi, hj, hn⟩
  by_cases hc : i < L.length
  · obtain ⟨x, hx⟩ : ∃ x, L[i] = x := ⟨_, rfl⟩
    have hx2 : L[i]? = some x := by rw [← hx]; exact List.getElem?_eq_getElem hc
    have w6 : IntKind.i64.wrap ((i : Int) + 1) = (i : Int) + 1 := wrap64 (by omega)
    rw [List.drop_eq_getElem_cons hc, hx] at hn
    by_cases hd : i < M.length
    · obtain ⟨y, hy⟩ : ∃ y, M[i] = y := ⟨_, rfl⟩
      have hy2 : M[i]? = some y := by rw [← hy]; exact List.getElem?_eq_getElem hd
      have hd' : ¬ M.length ≤ i := by omega
      rw [List.drop_eq_getElem_cons hd, hy] at hn
      have hq := hp x (hx ▸ List.getElem_mem hc) y (hy ▸ List.getElem_mem hd)
      by_cases hz : c x y = 0
      · have h2 : lexC c L M = lexC c (L.drop (i + 1)) (M.drop (i + 1)) := by rw [hn]; simp [lexC, orI, hz]
        simp (maxSteps := 4000000) [List.getElem?_cons_zero, List.getElem?_cons_succ, -getElem?_pos, hc, hd, hd', hx2, hy2, hg, hq, hz, w6]
        exact ⟨i + 1, ⟨by omega, by omega, h2⟩, by omega, by simp⟩
      · have h2 : lexC c L M = c x y := by rw [hn]; simp [lexC, orI, hz]
        simp (maxSteps := 4000000) [List.getElem?_cons_zero, List.getElem?_cons_succ, -getElem?_pos, hc, hd, hd', hx2, hy2, hg, hq, hz, h2, Tryz.results105]
    · have hd' : M.length ≤ i := by omega
      have h3 : M.drop i = [] := List.drop_of_length_le hd'
      have h2 : lexC c L M = 1 := by rw [hn, h3]; simp [lexC]
      simp (maxSteps := 4000000) [List.getElem?_cons_zero, List.getElem?_cons_succ, -getElem?_pos, hc, hd, hd', hx2, h2, Tryz.results105]
  · have hi' : i = L.length := by omega
    subst hi'
    rw [List.drop_length] at hn
    by_cases hd : L.length < M.length
    · have h2 : lexC c L M = -1 := by rw [hn, List.drop_eq_getElem_cons hd]; simp [lexC]
      simp (maxSteps := 4000000) [List.getElem?_cons_zero, List.getElem?_cons_succ, hd, h2, Tryz.results105]
    · have h2 : lexC c L M = 0 := by rw [hn, List.drop_of_length_le (by omega)]; simp [lexC]
      simp (maxSteps := 4000000) [List.getElem?_cons_zero, List.getElem?_cons_succ, hd, h2, Tryz.results105]
theorem pres1_eq (a b : List UInt8) (ha : a.length ≤ 2 ^ 40) (hb : b.length ≤ 2 ^ 40) (σ) : ev 106 [.str a, .str b] σ = some (.int .i64 (idC a b), σ) := by
  have h1 := allD_eq a ha
  have h2 := allD_eq b hb
  have h3 := Compare_eq a b
  have h4 := cmpNat_eq a.length b.length
  have h5 := fun σ => cmpOr_eq [natC a.length b.length, bytesC a b] (by simp) σ
  have h6 : orL [natC a.length b.length, bytesC a b] = orI (natC a.length b.length) (bytesC a b) := by simp only [orL, List.foldr_cons, List.foldr_nil, orI_zero]
  rw [h6] at h5
  simp only [List.map_cons, List.map_nil] at h5
  refine EV_post rfl Tryz.func106 rfl (by simp [Tryz.ntmps106]) (by kernel_rfl) (by kernel_rfl) ?_
  by_cases d1 : allB isD a = true
  · by_cases d2 : allB isD b = true
    · simp (maxSteps := 4000000) [List.getElem?_cons_zero, List.getElem?_cons_succ, h1, h2, h3, h4, h5, d1, d2, idC, Tryz.results106]
    · simp (maxSteps := 4000000) [List.getElem?_cons_zero, List.getElem?_cons_succ, h1, h2, h3, d1, d2, idC, Tryz.results106]
  · by_cases d2 : allB isD b = true
    · simp (maxSteps := 4000000) [List.getElem?_cons_zero, List.getElem?_cons_succ, h1, h2, h3, d1, d2, idC, Tryz.results106]
    · simp (maxSteps := 4000000) [List.getElem?_cons_zero, List.getElem?_cons_succ, h1, h2, h3, d1, d2, idC, Tryz.results106]
theorem pres_eq (a b : List UInt8) (ha : a.length ≤ 2 ^ 39) (hb : b.length ≤ 2 ^ 39) (σ) : ev 54 [.str a, .str b] σ = some (.int .i64 (presC a b), σ) := by
  have hmin : ∀ l : List UInt8, (if 1 < l.length then (1 : Int) else l.length) = ((min l.length 1 : Nat) : Int) := by intro l; split <;> omega
  have h1 := cmpNat_eq (min b.length 1) (min a.length 1)
  have h2 := Split1_eq a ha 46
  have h3 := Split1_eq b hb 46
  have h4 := fun σ => CompareFunc_eq (splitB 46 a) (splitB 46 b) (by have := splitB_many 46 a; omega) (by have := splitB_many 46 b; omega) 106 [] idC (by decide) σ
    (fun x hx y hy => pres1_eq x y (by have := splitB_le hx; omega) (by have := splitB_le hy; omega) σ)
  refine EV_post rfl Tryz.func54 rfl (by simp [Tryz.ntmps54]) (by kernel_rfl) (by kernel_rfl) ?_
  by_cases e1 : a = []
  · subst e1
    have h5 : presC [] b = natC (min b.length 1) 0 := by simp [presC]
    have h1' : ∀ σ, ev 53 [.int .i64 ((min b.length 1 : Nat) : Int), .int .i64 0] σ = some (.int .i64 (natC (min b.length 1) 0), σ) := h1
    simp (maxSteps := 4000000) [List.getElem?_cons_zero, List.getElem?_cons_succ, hmin, h1', h5, Tryz.results54]
  · by_cases e2 : b = []
    · subst e2
      have h5 : presC a [] = natC 0 (min a.length 1) := by simp [presC]
      have h1' : ∀ σ, ev 53 [.int .i64 0, .int .i64 ((min a.length 1 : Nat) : Int)] σ = some (.int .i64 (natC 0 (min a.length 1)), σ) := h1
      have e1' : a.isEmpty = false := by simpa using e1
      simp (maxSteps := 4000000) [List.getElem?_cons_zero, List.getElem?_cons_succ, e1', hmin, h1', h5, Tryz.results54]
    · have h5 : presC a b = lexC idC (splitB 46 a) (splitB 46 b) := by simp [presC, e1, e2]
      have e1' : a.isEmpty = false := by simpa using e1
      have e2' : b.isEmpty = false := by simpa using e2
      simp (maxSteps := 4000000) [List.getElem?_cons_zero, List.getElem?_cons_succ, e1', e2', h2, h3, h4, h5, Tryz.results54]
theorem cmpB_eq (a b : List UInt8) (ha : a.length ≤ 2 ^ 39) (hb : b.length ≤ 2 ^ 39) (σ) : ev 15 [.str a, .str b] σ = some (.int .i64 (cmpB a b), σ) := by
  have h1 := read_eq a ha
  have h2 := read_eq b hb
  have h3 := Compare_eq a b
  refine EV_post rfl Tryz.func15 rfl (by simp [Tryz.ntmps15]) (by kernel_rfl) (by kernel_rfl) ?_
  cases e1 : readB a with
  | none =>
    rw [e1] at h1
    cases e2 : readB b with
    | none =>
      rw [e2] at h2
      have h4 : cmpB a b = bytesC a b := by simp [cmpB, e1, e2]
      simp (maxSteps := 4000000) [List.getElem?_cons_zero, List.getElem?_cons_succ, h1, h2, h3, h4, verA, Tryz.results15]
    | some y =>
      rw [e2] at h2
      have h4 : cmpB a b = -1 := by simp [cmpB, e1, e2]
      simp (maxSteps := 4000000) [List.getElem?_cons_zero, List.getElem?_cons_succ, h1, h2, h3, h4, verA, Tryz.results15]
  | some x =>
    rw [e1] at h1
    cases e2 : readB b with
    | none =>
      rw [e2] at h2
      have h4 : cmpB a b = 1 := by simp [cmpB, e1, e2]
      simp (maxSteps := 4000000) [List.getElem?_cons_zero, List.getElem?_cons_succ, h1, h2, h3, h4, verA, Tryz.results15]
    | some y =>
      rw [e2] at h2
      have h4 : cmpB a b = verC x y := by simp [cmpB, e1, e2]
      have rx := readB_some e1
      have ry := readB_some e2
      have p1 : x.pre.length ≤ 2 ^ 39 := by
        have := rx.len; rw [rx.text] at this; unfold verT at this; split at this
        · rename_i q; rw [q]; simp
        · simp at this; omega
      have p2 : y.pre.length ≤ 2 ^ 39 := by
        have := ry.len; rw [ry.text] at this; unfold verT at this; split at this
        · rename_i q; rw [q]; simp
        · simp at this; omega
      have h5 := cmpNat_eq x.ma y.ma
      have h6 := cmpNat_eq x.mi y.mi
      have h7 := cmpNat_eq x.pa y.pa
      have h8 := pres_eq x.pre y.pre p1 p2
      have h9 := fun σ => cmpOr_eq [natC x.ma y.ma, natC x.mi y.mi, natC x.pa y.pa, presC x.pre y.pre] (by simp) σ
      have ha : orL [natC x.ma y.ma, natC x.mi y.mi, natC x.pa y.pa, presC x.pre y.pre] = verC x y := by
        unfold verC; simp only [orL, List.foldr_cons, List.foldr_nil, orI_zero]
      rw [ha] at h9
      simp only [List.map_cons, List.map_nil] at h9
      simp (maxSteps := 4000000) [List.getElem?_cons_zero, List.getElem?_cons_succ, h1, h2, h3, h4, h5, h6, h7, h8, h9, verA, Tryz.results15]
end Go.Proofs.Tryz.Ai
end
section
/- mod: what of versions is told; pseudo-versions. -/
namespace Go.Proofs.Tryz.Ai
open Go Go.AI Go.Proofs
set_option maxHeartbeats 2000000
set_option linter.unusedVariables false

theorem Itoa_eq (n : Nat) (hn : n < 10 ^ 18) (σ) : ev 87 [.int .i64 n] σ = some (.str (Lib.decDigits n), σ) := by
  rw [ev_Itoa]
  have : Lib.itoa (n : Int) = Lib.decDigits n := by unfold Lib.itoa; rw [if_neg (by omega)]; simp
  simp only [itoaT]
  rw [need_of (by omega), this]
theorem core_eq (x y z : Nat) (p : List UInt8) (hx : x < 10 ^ 18) (hy : y < 10 ^ 18) (hz : z < 10 ^ 18) (σ) : ev 84 [.agg [.int .i64 x, .int .i64 y, .int .i64 z, .str p]] σ = some (.str (coreT x y z), σ) := by
  have h1 := Itoa_eq x hx
  have h2 := Itoa_eq y hy
  have h3 := Itoa_eq z hz
  have l1 := decDigits_len 17 x hx
  have l2 := decDigits_len 17 y hy
  have l3 := decDigits_len 17 z hz
  unfold coreT
  generalize Lib.decDigits x = A at h1 l1 ⊢
  generalize Lib.decDigits y = B at h2 l2 ⊢
  generalize Lib.decDigits z = C at h3 l3 ⊢
  have n1 : 1 + A.length ≤ most := by unfold most; omega
  have n2 : A.length + 1 + 1 ≤ most := by unfold most; omega
  have n3 : A.length + 1 + 1 + B.length ≤ most := by unfold most; omega
  have n4 : A.length + (B.length + 1) + 1 + 1 ≤ most := by unfold most; omega
  have n5 : A.length + (B.length + 1 + 1) + 1 + C.length ≤ most := by unfold most; omega
  refine EV_post rfl Tryz.func84 rfl (by simp [Tryz.ntmps84]) (by kernel_rfl) (by kernel_rfl) ?_
  simp (maxSteps := 4000000) [List.getElem?_cons_zero, List.getElem?_cons_succ, n1, n2, n3, n4, n5, h1, h2, h3, Tryz.results84]
end Go.Proofs.Tryz.Ai
end
section
/- mod: what of versions is told; pseudo-versions. -/
namespace Go.Proofs.Tryz.Ai
open Go Go.AI Go.Proofs
set_option maxHeartbeats 2000000
set_option linter.unusedVariables false

theorem Valid_eq (s : List UInt8) (hl : s.length ≤ 2 ^ 39) (σ) : ev 16 [.str s] σ = some (.bool (readB s).isSome, σ) := by
  have h1 := read_eq s hl
  refine EV_post rfl Tryz.func16 rfl (by simp [Tryz.ntmps16]) (by kernel_rfl) (by kernel_rfl) ?_
  cases e1 : readB s with
  | none => rw [e1] at h1; simp (maxSteps := 4000000) [List.getElem?_cons_zero, List.getElem?_cons_succ, h1, verA, Tryz.results16]
  | some x => rw [e1] at h1; simp (maxSteps := 4000000) [List.getElem?_cons_zero, List.getElem?_cons_succ, h1, verA, Tryz.results16]
theorem Max_eq (a b : List UInt8) (ha : a.length ≤ 2 ^ 39) (hb : b.length ≤ 2 ^ 39) (σ) : ev 17 [.str a, .str b] σ = some (.str (if 0 < cmpB b a then b else a), σ) := by
  have h1 := cmpB_eq b a hb ha
  refine EV_post rfl Tryz.func17 rfl (by simp [Tryz.ntmps17]) (by kernel_rfl) (by kernel_rfl) ?_
  by_cases h : 0 < cmpB b a
  · simp (maxSteps := 4000000) [List.getElem?_cons_zero, List.getElem?_cons_succ, h1, h, Tryz.results17]
  · simp (maxSteps := 4000000) [List.getElem?_cons_zero, List.getElem?_cons_succ, h1, h, Tryz.results17]
def partsA : Option Ver → AV
  | some v => .tup [.int .i64 v.ma, .int .i64 v.mi, .int .i64 v.pa, .str v.pre, .bool true]
  | none => .tup [.int .i64 0, .int .i64 0, .int .i64 0, .str [], .bool false]
theorem Parts_eq (s : List UInt8) (hl : s.length ≤ 2 ^ 39) (σ) : ev 25 [.str s] σ = some (partsA (readB s), σ) := by
  have h1 := read_eq s hl
  refine EV_post rfl Tryz.func25 rfl (by simp [Tryz.ntmps25]) (by kernel_rfl) (by kernel_rfl) ?_
  cases e1 : readB s with
  | none => rw [e1] at h1; simp (maxSteps := 4000000) [List.getElem?_cons_zero, List.getElem?_cons_succ, h1, verA, partsA, Tryz.results25]
  | some x => rw [e1] at h1; simp (maxSteps := 4000000) [List.getElem?_cons_zero, List.getElem?_cons_succ, h1, verA, partsA, Tryz.results25]
theorem stamp1_eq (s : List UInt8) (b : Nat) (sh) (i : Nat) (hi : i + 2 ≤ s.length) (hs : s.length ≤ 2 ^ 39) (l m : List UInt8) (σ : List (List AV)) (hb : σ[b]? = some [.str s]) :
    ev 118 [.int .i64 i, .str l, .str m, .gp b 0 sh] σ = some (.bool (inB s i l m), σ) := by
  have w1 : IntKind.i64.wrap ((i : Int) + 2) = ((i + 2 : Nat) : Int) := by rw [wrap64 (by omega)]; omega
  have w2 : i ≤ i + 2 := by omega
  obtain ⟨x, hx⟩ : ∃ x, (s.take (i + 2)).drop i = x := ⟨_, rfl⟩
  refine EV_post rfl Tryz.func118 rfl (by simp [Tryz.ntmps118]) (by kernel_rfl) (by kernel_rfl) ?_
  by_cases h1 : Op.bytesLess x l = true
  · simp (maxSteps := 4000000) [List.getElem?_cons_zero, List.getElem?_cons_succ, -getElem?_pos, hb, w1, w2, hi, hx, h1, inB, Tryz.results118]
  · simp (maxSteps := 4000000) [List.getElem?_cons_zero, List.getElem?_cons_succ, -getElem?_pos, hb, w1, w2, hi, hx, h1, inB, Tryz.results118]
theorem stamp_eq (s : List UInt8) (hs : s.length ≤ 2 ^ 39) (σ) : ev 82 [.str s] σ = some (.bool (stampB s), σ) := by
  have ha := allD_eq s (by omega)
  refine EV_post rfl Tryz.func82 rfl (by simp [Tryz.ntmps82]) (by kernel_rfl) (by kernel_rfl) ?_
  by_cases h14 : s.length = 14
  · have h1 := fun l m => stamp1_eq s σ.length (some (9, 1)) 4 (by omega) hs l m (σ ++ [[.str s]]) (by simp)
    have h2 := fun l m => stamp1_eq s σ.length (some (9, 1)) 6 (by omega) hs l m (σ ++ [[.str s]]) (by simp)
    have h3 := fun l m => stamp1_eq s σ.length (some (9, 1)) 8 (by omega) hs l m (σ ++ [[.str s]]) (by simp)
    have h4 := fun l m => stamp1_eq s σ.length (some (9, 1)) 10 (by omega) hs l m (σ ++ [[.str s]]) (by simp)
    have h5 := fun l m => stamp1_eq s σ.length (some (9, 1)) 12 (by omega) hs l m (σ ++ [[.str s]]) (by simp)
    have q : ∀ n : Nat, ((OfNat.ofNat n : Nat) : Int) = (OfNat.ofNat n : Int) := fun n => rfl
    simp only [q] at h1 h2 h3 h4 h5
    by_cases d : allB isD s = true
    · by_cases e1 : inB s 4 [48, 49] [49, 50] = true
      · by_cases e2 : inB s 6 [48, 49] [51, 49] = true
        · by_cases e3 : inB s 8 [48, 48] [50, 51] = true
          · by_cases e4 : inB s 10 [48, 48] [53, 57] = true
            · simp (maxSteps := 4000000) [List.getElem?_cons_zero, List.getElem?_cons_succ, h14, ha, d, h1, h2, h3, h4, h5, e1, e2, e3, e4, stampB, Tryz.results82]
            · simp (maxSteps := 4000000) [List.getElem?_cons_zero, List.getElem?_cons_succ, h14, ha, d, h1, h2, h3, h4, h5, e1, e2, e3, e4, stampB, Tryz.results82]
          · simp (maxSteps := 4000000) [List.getElem?_cons_zero, List.getElem?_cons_succ, h14, ha, d, h1, h2, h3, e1, e2, e3, stampB, Tryz.results82]
        · simp (maxSteps := 4000000) [List.getElem?_cons_zero, List.getElem?_cons_succ, h14, ha, d, h1, h2, e1, e2, stampB, Tryz.results82]
      · simp (maxSteps := 4000000) [List.getElem?_cons_zero, List.getElem?_cons_succ, h14, ha, d, h1, e1, stampB, Tryz.results82]
    · simp (maxSteps := 4000000) [List.getElem?_cons_zero, List.getElem?_cons_succ, h14, ha, d, stampB, Tryz.results82]
  · simp (maxSteps := 4000000) [List.getElem?_cons_zero, List.getElem?_cons_succ, h14, stampB, Tryz.results82]
theorem revision1_eq (c : UInt8) (σ) : ev 119 [.int .u8 c.toNat] σ = some (.bool (isX c), σ) := by
  have h1 := digit_eq c
  refine EV_post rfl Tryz.func119 rfl (by simp [Tryz.ntmps119]) (by kernel_rfl) (by kernel_rfl) ?_
  by_cases d : isD c = true
  · simp (maxSteps := 4000000) [List.getElem?_cons_zero, List.getElem?_cons_succ, h1, d, isX, Tryz.results119]
  · by_cases e : 97 ≤ c.toNat
    · simp (maxSteps := 4000000) [List.getElem?_cons_zero, List.getElem?_cons_succ, h1, d, e, isX, Tryz.results119]
    · simp (maxSteps := 4000000) [List.getElem?_cons_zero, List.getElem?_cons_succ, h1, d, e, isX, Tryz.results119]
theorem revision_eq (s : List UInt8) (hs : s.length ≤ 2 ^ 39) (σ) : ev 83 [.str s] σ = some (.bool (revB s), σ) := by
  have h1 := fun σ => all_eq s (by omega) 119 [] isX (by decide) σ (fun c => revision1_eq c σ)
  refine EV_post rfl Tryz.func83 rfl (by simp [Tryz.ntmps83]) (by kernel_rfl) (by kernel_rfl) ?_
  by_cases h : s.length = 12
  · simp (maxSteps := 4000000) [List.getElem?_cons_zero, List.getElem?_cons_succ, h, h1, revB, Tryz.results83]
  · simp (maxSteps := 4000000) [List.getElem?_cons_zero, List.getElem?_cons_succ, h, revB, Tryz.results83]
end Go.Proofs.Tryz.Ai
end
section
/- mod: pseudo-versions are made. -/
namespace Go.Proofs.Tryz.Ai
open Go Go.AI Go.Proofs
set_option maxHeartbeats 2000000
set_option linter.unusedVariables false

theorem coreT_len (x y z : Nat) (hx : x < 10 ^ 18) (hy : y < 10 ^ 18) (hz : z < 10 ^ 18) : (coreT x y z).length ≤ 60 := by
  have l1 := decDigits_len 17 x hx
  have l2 := decDigits_len 17 y hy
  have l3 := decDigits_len 17 z hz
  unfold coreT
  generalize Lib.decDigits x = A at l1 ⊢
  generalize Lib.decDigits y = B at l2 ⊢
  generalize Lib.decDigits z = C at l3 ⊢
  simp; omega
theorem pseudo_eq (mj : Int) (base time rev : List UInt8) (hb : base.length ≤ 2 ^ 30) (ht : time.length ≤ 2 ^ 30) (hr : rev.length ≤ 2 ^ 30) (σ) :
    ev 35 [.int .i64 mj, .str base, .str time, .str rev] σ = some (.tup [.str (pseudoB mj base time rev).1, .int .i64 (pseudoB mj base time rev).2], σ) := by
  have hS := stamp_eq time (by omega)
  have hR := revision_eq rev (by omega)
  have hB := read_eq base (by omega)
  refine EV_post rfl Tryz.func35 rfl (by simp [Tryz.ntmps35]) (by kernel_rfl) (by kernel_rfl) ?_
  by_cases a1 : mj < 0
  · simp (maxSteps := 4000000) [List.getElem?_cons_zero, List.getElem?_cons_succ, a1, pseudoB, Tryz.results35]
  · by_cases a2 : 999999999 < mj
    · simp (maxSteps := 4000000) [List.getElem?_cons_zero, List.getElem?_cons_succ, a1, a2, pseudoB, Tryz.results35]
    · by_cases a3 : stampB time = true
      · by_cases a4 : revB rev = true
        · have n1 : time.length + 1 ≤ most := by unfold most; omega
          have n2 : time.length + 1 + rev.length ≤ most := by unfold most; omega
          obtain ⟨m, rfl⟩ := Int.eq_ofNat_of_zero_le (show 0 ≤ mj by omega)
          have a5 : m < 10 ^ 18 := by omega
          by_cases b1 : base = []
          · subst b1
            have e1 : readB [] = none := by simp [readB]
            rw [e1] at hB
            have hc := core_eq m 0 0 [] a5 (by omega) (by omega)
            have hl := coreT_len m 0 0 a5 (by omega) (by omega)
            have hP : pseudoT m [] (time ++ 45 :: rev) = coreT m 0 0 ++ 45 :: (time ++ 45 :: rev) := by simp [pseudoT, e1]
            have hpb : pseudoB m [] time rev = if (readB (coreT m 0 0 ++ 45 :: (time ++ 45 :: rev))).isSome then (coreT m 0 0 ++ 45 :: (time ++ 45 :: rev), 0) else ([], 8) := by
              unfold pseudoB; rw [if_neg (by omega), if_neg (by simp [a3, a4]), if_neg (by simp), Int.toNat_natCast, hP]
            rw [hpb]
            generalize coreT m 0 0 = K at hc hl
            have n3 : K.length + 1 ≤ most := by unfold most; omega
            have n4 : K.length + 1 + (time.length + (rev.length + 1)) ≤ most := by unfold most; omega
            have hV := Valid_eq (K ++ 45 :: (time ++ 45 :: rev)) (by simp; omega)
            have hc' : ∀ σ, ev 84 [.agg [.int .i64 m, .int .i64 0, .int .i64 0, .str []]] σ = some (.str K, σ) := hc
            by_cases v : (readB (K ++ 45 :: (time ++ 45 :: rev))).isSome = true
            · simp (maxSteps := 4000000) [List.getElem?_cons_zero, List.getElem?_cons_succ, a1, a2, hS, hR, hB, a3, a4, n1, n2, n3, n4, hc', hV, v, verA, Tryz.results35]
            · simp (maxSteps := 4000000) [List.getElem?_cons_zero, List.getElem?_cons_succ, a1, a2, hS, hR, hB, a3, a4, n1, n2, n3, n4, hc', hV, v, verA, Tryz.results35]
          · have b1' : base.isEmpty = false := by simpa using b1
            cases e1 : readB base with
            | none =>
              rw [e1] at hB
              have hpb : pseudoB m base time rev = ([], 8) := by
                unfold pseudoB; rw [if_neg (by omega), if_neg (by simp [a3, a4]), if_pos ⟨b1, by simp [e1]⟩]
              simp (maxSteps := 4000000) [List.getElem?_cons_zero, List.getElem?_cons_succ, a1, a2, hS, hR, hB, a3, a4, n1, n2, b1, b1', hpb, verA, Tryz.results35]
            | some x =>
              rw [e1] at hB
              have rx := readB_some e1
              by_cases c1 : x.ma = m
              · subst c1
                have lx : base.length ≤ 60 := rx.len
                by_cases d1 : x.pre = []
                · have w1 : IntKind.i64.wrap ((x.pa : Int) + 1) = ((x.pa + 1 : Nat) : Int) := by have := rx.pa; rw [wrap64 (by omega)]; omega
                  have hc := core_eq x.ma x.mi (x.pa + 1) x.pre a5 (by have := rx.mi; omega) (by have := rx.pa; omega)
                  have hl := coreT_len x.ma x.mi (x.pa + 1) a5 (by have := rx.mi; omega) (by have := rx.pa; omega)
                  have hP : pseudoT x.ma base (time ++ 45 :: rev) = coreT x.ma x.mi (x.pa + 1) ++ 45 :: 48 :: 46 :: (time ++ 45 :: rev) := by simp [pseudoT, e1, b1, d1]
                  have hpb : pseudoB x.ma base time rev = if (readB (coreT x.ma x.mi (x.pa + 1) ++ 45 :: 48 :: 46 :: (time ++ 45 :: rev))).isSome then (coreT x.ma x.mi (x.pa + 1) ++ 45 :: 48 :: 46 :: (time ++ 45 :: rev), 0) else ([], 8) := by
                    unfold pseudoB; rw [if_neg (by omega), if_neg (by simp [a3, a4]), if_neg (by simp [e1]), Int.toNat_natCast, hP]
                  rw [hpb]
                  rw [d1] at hc
                  generalize coreT x.ma x.mi (x.pa + 1) = K at hc hl
                  have n3 : K.length + 3 ≤ most := by unfold most; omega
                  have n4 : K.length + 3 + (time.length + (rev.length + 1)) ≤ most := by unfold most; omega
                  have n5 : K.length + (0 + 1 + 1 + 1) ≤ most := by unfold most; omega
                  have n6 : K.length + (0 + 1 + 1 + 1) + (time.length + (rev.length + 1)) ≤ most := by unfold most; omega
                  have hV := Valid_eq (K ++ 45 :: 48 :: 46 :: (time ++ 45 :: rev)) (by simp; omega)
                  have hc' : ∀ σ, ev 84 [.agg [.int .i64 x.ma, .int .i64 x.mi, .int .i64 ((x.pa : Int) + 1), .str []]] σ = some (.str K, σ) := hc
                  by_cases v : (readB (K ++ 45 :: 48 :: 46 :: (time ++ 45 :: rev))).isSome = true
                  · simp (maxSteps := 4000000) [List.getElem?_cons_zero, List.getElem?_cons_succ, a1, a2, hS, hR, hB, a3, a4, n1, n2, n3, n4, b1, b1', d1, w1, hc', hV, v, verA, Tryz.results35]
                  · simp (maxSteps := 4000000) [List.getElem?_cons_zero, List.getElem?_cons_succ, a1, a2, hS, hR, hB, a3, a4, n1, n2, n3, n4, b1, b1', d1, w1, hc', hV, v, verA, Tryz.results35]
                · have d1' : x.pre.isEmpty = false := by simpa using d1
                  have hP : pseudoT x.ma base (time ++ 45 :: rev) = base ++ 46 :: 48 :: 46 :: (time ++ 45 :: rev) := by simp [pseudoT, e1, b1, d1]
                  have hpb : pseudoB x.ma base time rev = if (readB (base ++ 46 :: 48 :: 46 :: (time ++ 45 :: rev))).isSome then (base ++ 46 :: 48 :: 46 :: (time ++ 45 :: rev), 0) else ([], 8) := by
                    unfold pseudoB; rw [if_neg (by omega), if_neg (by simp [a3, a4]), if_neg (by simp [e1]), Int.toNat_natCast, hP]
                  rw [hpb]
                  have n3 : base.length + 3 ≤ most := by unfold most; omega
                  have n4 : base.length + 3 + (time.length + (rev.length + 1)) ≤ most := by unfold most; omega
                  have hV := Valid_eq (base ++ 46 :: 48 :: 46 :: (time ++ 45 :: rev)) (by simp; omega)
                  by_cases v : (readB (base ++ 46 :: 48 :: 46 :: (time ++ 45 :: rev))).isSome = true
                  · simp (maxSteps := 4000000) [List.getElem?_cons_zero, List.getElem?_cons_succ, a1, a2, hS, hR, hB, a3, a4, n1, n2, n3, n4, b1, b1', d1, d1', hV, v, verA, Tryz.results35]
                  · simp (maxSteps := 4000000) [List.getElem?_cons_zero, List.getElem?_cons_succ, a1, a2, hS, hR, hB, a3, a4, n1, n2, n3, n4, b1, b1', d1, d1', hV, v, verA, Tryz.results35]
              · have hpb : pseudoB m base time rev = ([], 8) := by
                  unfold pseudoB; rw [if_neg (by omega), if_neg (by simp [a3, a4]), if_pos ⟨b1, fun y hy => by rw [e1] at hy; injection hy with hy; subst hy; omega⟩]
                simp (maxSteps := 4000000) [List.getElem?_cons_zero, List.getElem?_cons_succ, a1, a2, hS, hR, hB, a3, a4, n1, n2, b1, b1', c1, hpb, verA, Tryz.results35]
        · simp (maxSteps := 4000000) [List.getElem?_cons_zero, List.getElem?_cons_succ, a1, a2, hS, hR, a3, a4, pseudoB, Tryz.results35]
      · simp (maxSteps := 4000000) [List.getElem?_cons_zero, List.getElem?_cons_succ, a1, a2, hS, a3, pseudoB, Tryz.results35]
end Go.Proofs.Tryz.Ai
end
section
/- mod: escapes. -/
namespace Go.Proofs.Tryz.Ai
open Go Go.AI Go.Proofs
set_option maxHeartbeats 2000000
set_option linter.unusedVariables false

theorem esc1_eq (c : UInt8) (σ) : ev 56 [.int .u8 c.toNat] σ = some (.bool (escQ c), σ) := by
  have h := high_eq c
  refine EV_post rfl Tryz.func56 rfl (by simp [Tryz.ntmps56]) (by kernel_rfl) (by kernel_rfl) ?_
  by_cases d : c = 33
  · simp (maxSteps := 4000000) [List.getElem?_cons_zero, List.getElem?_cons_succ, d, escQ, Tryz.results56]
  · simp (maxSteps := 4000000) [List.getElem?_cons_zero, List.getElem?_cons_succ, h, d, escQ, Tryz.results56]
theorem unesc1_eq (c : UInt8) (σ) : ev 62 [.int .u8 c.toNat] σ = some (.bool (isU c || isH c), σ) := by
  have h := high_eq c
  have h2 := upper_eq c
  refine EV_post rfl Tryz.func62 rfl (by simp [Tryz.ntmps62]) (by kernel_rfl) (by kernel_rfl) ?_
  by_cases d : isU c = true
  · simp (maxSteps := 4000000) [List.getElem?_cons_zero, List.getElem?_cons_succ, h2, d, Tryz.results62]
  · simp (maxSteps := 4000000) [List.getElem?_cons_zero, List.getElem?_cons_succ, h, h2, d, Tryz.results62]
theorem up_wrap {c : UInt8} (h : isU c = true) : IntKind.u8.wrap (IntKind.u8.wrap ((c.toNat : Int) - 65) + 97) = ((c + 32).toNat : Int) := by
  have h2 : 65 ≤ c.toNat ∧ c.toNat ≤ 90 := of_decide_eq_true h
  have h3 : (c + 32).toNat = c.toNat + 32 := by rw [UInt8.toNat_add]; simp; omega
  rw [wrapU8 (n := (c.toNat : Int) - 65) (by omega), wrapU8 (by omega), h3]; omega
theorem low_wrap {c : UInt8} (h : isL c = true) : IntKind.u8.wrap (IntKind.u8.wrap ((c.toNat : Int) - 97) + 65) = ((c - 32).toNat : Int) := by
  have h2 : 97 ≤ c.toNat ∧ c.toNat ≤ 122 := of_decide_eq_true h
  have h3 : (c - 32).toNat = c.toNat - 32 := by rw [UInt8.toNat_sub_of_le _ _ (by rw [UInt8.le_iff_toNat_le]; simp; omega)]; simp
  rw [wrapU8 (n := (c.toNat : Int) - 97) (by omega), wrapU8 (by omega), h3]; omega

theorem Escape_eq (s : List UInt8) (hl : s.length ≤ 2 ^ 30) (σ) : ev 18 [.str s] σ = some (.tup [.str (escR s).1, .int .i64 (escR s).2], σ) := by
  have h1 : ∀ σ, ev 55 [.str s, .fn 56 []] σ = some (.bool (escBad s), σ) := fun σ => some_eq s (by omega) 56 [] escQ (by decide) σ (fun c => esc1_eq c σ)
  have hw := fun (q : Option (List UInt8)) (c : UInt8) (h : (txt q).length + 1 ≤ most) => WriteByte_eq σ [] q h c
  have hs := fun (q : Option (List UInt8)) => String_eq σ [] q
  refine EV_post rfl Tryz.func18 rfl (by simp [Tryz.ntmps18]) (by kernel_rfl) (by kernel_rfl) ?_
  by_cases a1 : escBad s = true
  · have hr : escR s = ([], 15) := by unfold escR; rw [if_pos a1]
    simp (maxSteps := 4000000) [List.getElem?_cons_zero, List.getElem?_cons_succ, h1, a1, hr, Tryz.results18]
  · have hr : escR s = (escT s, 0) := by unfold escR; rw [if_neg a1]
    simp (maxSteps := 4000000) [List.getElem?_cons_zero, List.getElem?_cons_succ, h1, a1, hr]
    refine Post_loop (I := fun p : Nat × Option (List UInt8) => ⟨[(0, .str s), (4, .gp σ.length 0 (some (SB, 2))), (5, .int .i64 p.1)], [], σ ++ [bc σ.length p.2]⟩)
      (Pr := fun p => p.1 ≤ s.length ∧ txt p.2 = escT (s.take p.1)) (μ := fun p => s.length - p.1) (a := (0, none)) (by simp [bc, SB]) (by simp [escT]) ?_
    rintro ⟨i, q⟩ ⟨hi, hq⟩
    simp only at hi hq ⊢
    have hql : (txt q).length ≤ 2 ^ 32 := by rw [hq]; have := escT_len (s.take i); simp at this; omega
    by_cases hc : i < s.length
    · obtain ⟨c, hcx⟩ : ∃ c, s[i] = c := ⟨_, rfl⟩
      have hx : s[i]? = some c := by rw [← hcx]; exact List.getElem?_eq_getElem hc
      have hU := upper_eq c
      have e0 : IntKind.i64.wrap ((i : Int) + 1) = (i : Int) + 1 := wrap64 (by omega)
      have ht : escT (s.take (i + 1)) = escT (s.take i) ++ escC c := by rw [List.take_succ_eq_append_getElem hc, hcx]; simp [escT]
      by_cases u : isU c = true
      · have w1 := hw q 33 (by unfold most; omega)
        have w2 := hw (some (txt q ++ [33])) (c + 32) (by simp; unfold most; omega)
        have w0 := up_wrap u
        have ht2 : escC c = [33, c + 32] := by simp [escC, u]
        generalize c + 32 = d at w0 w2 ht2
        simp only [AV.u8] at w1 w2
        have w1' : ev 59 [.gp σ.length 0 (some (SB, 2)), .int .u8 33] (σ ++ [bc σ.length q]) = some (.nili, σ ++ [bc σ.length (some (txt q ++ [33]))]) := w1
        simp (maxSteps := 4000000) [List.getElem?_cons_zero, List.getElem?_cons_succ, -getElem?_pos, hc, hx, hU, u, w0, w1', w2, e0]
        refine ⟨i + 1, some (txt q ++ [33, d]), ⟨by omega, ?_⟩, by omega, by simp, by simp⟩
        rw [ht, ← hq, ht2]; simp
      · have w1 := hw q c (by unfold most; omega)
        simp only [AV.u8] at w1
        simp (maxSteps := 4000000) [List.getElem?_cons_zero, List.getElem?_cons_succ, -getElem?_pos, hc, hx, hU, u, w1, e0]
        refine ⟨i + 1, some (txt q ++ [c]), ⟨by omega, ?_⟩, by omega, by simp, by simp⟩
        rw [ht, ← hq]; simp [escC, u]
    · have hi' : i = s.length := by omega
      subst hi'
      rw [List.take_length] at hq
      simp (maxSteps := 4000000) [List.getElem?_cons_zero, List.getElem?_cons_succ, hs, hq, Tryz.results18]
end Go.Proofs.Tryz.Ai
end
section
/- mod: paths. -/
namespace Go.Proofs.Tryz.Ai
open Go Go.AI Go.Proofs
set_option maxHeartbeats 2000000
set_option linter.unusedVariables false

theorem HasPrefixL_eq (a b : List UInt8) (σ) : ev 125 [.str a, .str b] σ = some (.bool (b.isPrefixOf a), σ) := by
  refine EV_post rfl Tryz.func125 rfl (by simp [Tryz.ntmps125]) (by kernel_rfl) (by kernel_rfl) ?_
  by_cases hc : b.length ≤ a.length
  · have c1 : (b.length : Int) ≤ a.length := by omega
    have e : (a.take b.length == b) = b.isPrefixOf a := by
      rw [Bool.eq_iff_iff, List.isPrefixOf_iff_prefix, beq_iff_eq, List.prefix_iff_eq_take]
      exact ⟨fun h => h.symm, fun h => h.symm⟩
    simp (maxSteps := 4000000) [List.getElem?_cons_zero, List.getElem?_cons_succ, c1, hc, e, Tryz.results125]
  · have c1 : ¬ (b.length : Int) ≤ a.length := by omega
    have e : b.isPrefixOf a = false := by
      rw [Bool.eq_false_iff]
      intro h
      rw [List.isPrefixOf_iff_prefix] at h
      exact hc h.length_le
    simp (maxSteps := 4000000) [List.getElem?_cons_zero, List.getElem?_cons_succ, c1, hc, e, Tryz.results125]
theorem CutPrefix_eq (a b : List UInt8) (ha : a.length ≤ 2 ^ 40) (hb : b.length ≤ 2 ^ 40) (σ) : ev 73 [.str a, .str b] σ = some (.tup [.str (if b.isPrefixOf a then a.drop b.length else a), .bool (b.isPrefixOf a)], σ) := by
  have h0 : ∀ σ, ev 125 [.str a, .str b] σ = some (.bool (b.isPrefixOf a), σ) := HasPrefixL_eq a b
  have h1 : ∀ σ, ev 114 [.str a, .str b] σ = some (.tup [.str (if b.isPrefixOf a then a.drop b.length else a), .bool (b.isPrefixOf a)], σ) := by
    intro σ
    refine EV_post rfl Tryz.func114 rfl (by simp [Tryz.ntmps114]) (by kernel_rfl) (by kernel_rfl) ?_
    by_cases hc : b.isPrefixOf a = true
    · have hl : b.length ≤ a.length := (List.isPrefixOf_iff_prefix.1 hc).length_le
      have h2 : List.drop b.length (List.take a.length a) = a.drop b.length := by rw [List.take_length]
      rw [hc] at h0
      simp (maxSteps := 4000000) [List.getElem?_cons_zero, List.getElem?_cons_succ, h0, hc, hl, h2, Tryz.results114]
    · have hc : b.isPrefixOf a = false := Bool.eq_false_iff.2 hc
      rw [hc] at h0
      simp (maxSteps := 4000000) [List.getElem?_cons_zero, List.getElem?_cons_succ, h0, hc, Tryz.results114]
  refine EV_post rfl Tryz.func73 rfl (by simp [Tryz.ntmps73]) (by kernel_rfl) (by kernel_rfl) ?_
  simp (maxSteps := 4000000) [List.getElem?_cons_zero, List.getElem?_cons_succ, h1, Tryz.results73]
theorem lixI_eq (c : UInt8) (l : List UInt8) : lixI c l = match lix c l with
  | some n => (n : Int)
  | none => -1 := rfl
theorem SplitMajor_eq (p : List UInt8) (hp : p.length ≤ 2 ^ 39) (σ) : ev 24 [.str p] σ = some (.tup [.str (splitMB p).1, .int .i64 (splitMB p).2], σ) := by
  have h1 := LastIndex1_eq p (by omega) 47
  refine EV_post rfl Tryz.func24 rfl (by simp [Tryz.ntmps24]) (by kernel_rfl) (by kernel_rfl) ?_
  cases hx : lix 47 p with
  | none =>
    have e1 : lixI 47 p = -1 := by simp [lixI, hx]
    have e2 : splitMB p = (p, 0) := by simp [splitMB, hx]
    simp (maxSteps := 4000000) [List.getElem?_cons_zero, List.getElem?_cons_succ, h1, e1, e2, Tryz.results24]
  | some i =>
    have e1 : lixI 47 p = i := by simp [lixI, hx]
    have hi := (lix_some hx).1
    obtain ⟨q, hq⟩ : ∃ q, p.drop (i + 1) = q := ⟨_, rfl⟩
    have hql : q.length ≤ 2 ^ 39 := by rw [← hq]; simp; omega
    have w1 : IntKind.i64.wrap ((i : Int) + 1) = (i : Int) + 1 := wrap64 (by omega)
    have w2 : i + 1 ≤ p.length := by omega
    have w3 : i ≤ p.length := by omega
    have h2 := CutPrefix_eq q [118] (by omega) (by simp)
    have e2 : splitMB p = match majB q with
        | none => (p, 0)
        | some n => (p.take i, n) := by unfold splitMB; rw [hx]; simp only [hq]; cases majB q <;> rfl
    cases q with
    | nil =>
      have h3 := number_eq [] (by simp)
      have h4 : numB [] = none := by simp [numB, numOk, allB]
      have h6 : majB [] = none := rfl
      rw [h4] at h3
      rw [h6] at e2
      simp only [List.isPrefixOf, Bool.false_eq_true, if_false] at h2
      simp only at e2
      simp (maxSteps := 4000000) [List.getElem?_cons_zero, List.getElem?_cons_succ, h1, e1, e2, hq, w1, w2, h2, h3, Tryz.results24]
    | cons c r =>
      simp only [List.length_cons] at hql
      by_cases hc : c = 118
      · subst hc
        have h5 : List.isPrefixOf [(118 : UInt8)] (118 :: r) = true := by simp [List.isPrefixOf]
        rw [h5] at h2
        simp only [if_true, List.length_cons, List.length_nil, Nat.zero_add, List.drop_succ_cons, List.drop_zero] at h2
        have h3 := number_eq r (by omega)
        have h7 : majB (118 :: r) = match numB r with
            | none => none
            | some n => if n < 2 then none else some n := rfl
        cases hn : numB r with
        | none =>
          rw [hn] at h3 h7
          rw [h7] at e2
          simp only at e2
          simp (maxSteps := 4000000) [List.getElem?_cons_zero, List.getElem?_cons_succ, h1, e1, e2, hq, w1, w2, h2, h3, Tryz.results24]
        | some n =>
          rw [hn] at h3 h7
          simp only at h7
          by_cases h6 : n < 2
          · rw [if_pos h6] at h7
            rw [h7] at e2
            simp (maxSteps := 4000000) [List.getElem?_cons_zero, List.getElem?_cons_succ, h1, e1, e2, hq, w1, w2, h2, h3, h6, Tryz.results24]
          · rw [if_neg h6] at h7
            rw [h7] at e2
            simp (maxSteps := 4000000) [List.getElem?_cons_zero, List.getElem?_cons_succ, h1, e1, e2, hq, w1, w2, w3, h2, h3, h6, Tryz.results24]
      · have h5 : List.isPrefixOf [(118 : UInt8)] (c :: r) = false := by simp [List.isPrefixOf]; exact fun e => hc e.symm
        have h7 : majB (c :: r) = none := by simp [majB, hc]
        rw [h7] at e2
        rw [h5] at h2
        simp only [Bool.false_eq_true, if_false] at h2
        have h3 := number_eq (c :: r) (by simp; omega)
        simp (maxSteps := 4000000) [List.getElem?_cons_zero, List.getElem?_cons_succ, h1, e1, e2, hq, w1, w2, h2, h3, Tryz.results24]
theorem elements_eq (p o : List UInt8) (hp : p.length ≤ 2 ^ 39) (b : Nat) (sh) (σ : List (List AV)) (hb : σ[b]? = some [.str o]) : ev 67 [.str p, .fn 109 [.gp b 0 sh]] σ = some (.bool (elemsB o p), σ) := by
  have hS := Split1_eq p hp 47
  obtain ⟨L, hL⟩ : ∃ L, splitB 47 p = L := ⟨_, rfl⟩
  have hm : ∀ x ∈ L, x.length ≤ 2 ^ 39 := fun x hx => Nat.le_trans (splitB_le (hL ▸ hx)) hp
  have hn : L.length ≤ 2 ^ 40 := by rw [← hL]; have := splitB_many 47 p; omega
  have hAll : elemsB o p = L.all (elemB o) := by unfold elemsB; rw [hL]
  rw [hL] at hS
  refine EV_post rfl Tryz.func67 rfl (by simp [Tryz.ntmps67]) (by kernel_rfl) (by kernel_rfl) ?_
  simp (maxSteps := 4000000) [List.getElem?_cons_zero, List.getElem?_cons_succ, hS]
  refine Post_loop (I := fun i : Nat => ⟨[(1, .fn 109 [.gp b 0 sh]), (8, .sl (.ex 9 1) (L.map .str)), (9, .int .i64 L.length), (10, .int .i64 i)], [], σ⟩) (Pr := fun i => i ≤ L.length ∧ ∀ x ∈ L.take i, elemB o x = true) (μ := fun i => L.length - i) (a := 0) (by simp) (by simp) ?_
  rintro i ⟨hi, ha⟩
  by_cases hc : i < L.length
  · obtain ⟨x, hx⟩ : ∃ x, L[i] = x := ⟨_, rfl⟩
    have hx2 : L[i]? = some x := by rw [← hx]; exact List.getElem?_eq_getElem hc
    have hxl := hm x (hx ▸ List.getElem_mem hc)
    have h1 := allW_eq x o (by omega) b sh σ hb
    have w6 : IntKind.i64.wrap ((i : Int) + 1) = (i : Int) + 1 := wrap64 (by omega)
    have bad : elemB o x = false → elemsB o p = false := fun e => by rw [hAll, Bool.eq_false_iff]; intro h; have := List.all_eq_true.1 h _ (hx ▸ List.getElem_mem hc); rw [e] at this; cases this
    by_cases hA : allB (wordB o) x = true
    · obtain ⟨c, r, hcr⟩ : ∃ c r, x = c :: r := by cases x with
        | nil => simp [allB] at hA
        | cons c r => exact ⟨c, r, rfl⟩
      have g0 : x[0]? = some c := by rw [hcr]; rfl
      have hlen : x.length = r.length + 1 := by rw [hcr]; simp
      obtain ⟨d, hd⟩ : ∃ d, x[r.length]? = some d := ⟨_, List.getElem?_eq_getElem (by omega)⟩
      have hlast : x.getLast? = some d := by rw [List.getLast?_eq_getElem?, hlen]; simpa using hd
      have hhead : x.head? = some c := by rw [hcr]; rfl
      have w7 : IntKind.i64.wrap ((x.length : Int) - 1) = (r.length : Int) := by rw [wrap64 (by omega)]; omega
      by_cases e1 : c = 46
      · have hf := bad (by simp [elemB, hhead, e1])
        subst e1
        simp (maxSteps := 4000000) [List.getElem?_cons_zero, List.getElem?_cons_succ, -getElem?_pos, hc, hx2, h1, hA, g0, hf, Tryz.results67]
      · by_cases e2 : d = 46
        · have hf := bad (by simp [elemB, hlast, e2])
          subst e2
          simp (maxSteps := 4000000) [List.getElem?_cons_zero, List.getElem?_cons_succ, -getElem?_pos, hc, hx2, h1, hA, g0, e1, w7, hd, hf, Tryz.results67]
        · have hq : elemB o x = true := by simp [elemB, hA, hhead, hlast, e1, e2]
          simp (maxSteps := 4000000) [List.getElem?_cons_zero, List.getElem?_cons_succ, -getElem?_pos, hc, hx2, h1, hA, g0, e1, w7, hd, e2, w6]
          exact ⟨i + 1, ⟨by omega, take_all hc ha (by rw [hx]; exact hq)⟩, by omega, by simp⟩
    · have hf := bad (by simp [elemB, hA])
      simp (maxSteps := 4000000) [List.getElem?_cons_zero, List.getElem?_cons_succ, -getElem?_pos, hc, hx2, h1, hA, hf, Tryz.results67]
  · have hi' : i = L.length := by omega
    subst hi'
    rw [List.take_length] at ha
    have ht : elemsB o p = true := by rw [hAll]; exact List.all_eq_true.2 ha
    simp (maxSteps := 4000000) [List.getElem?_cons_zero, List.getElem?_cons_succ, ht, Tryz.results67]
theorem odd_eq (c : UInt8) (σ) : ev 66 [.int .u8 c.toNat] σ = some (.bool (oddB c), σ) := by
  have h := upper_eq c
  refine EV_post rfl Tryz.func66 rfl (by simp [Tryz.ntmps66]) (by kernel_rfl) (by kernel_rfl) ?_
  by_cases d : isU c = true
  · simp (maxSteps := 4000000) [List.getElem?_cons_zero, List.getElem?_cons_succ, h, d, oddB, Tryz.results66]
  · by_cases e : c = 95
    · subst e
      have h' : ∀ σ, ev 58 [.int .u8 95] σ = some (.bool false, σ) := fun σ => upper_eq 95 σ
      simp (maxSteps := 4000000) [List.getElem?_cons_zero, List.getElem?_cons_succ, h', oddB, Tryz.results66]
    · simp (maxSteps := 4000000) [List.getElem?_cons_zero, List.getElem?_cons_succ, h, d, e, oddB, Tryz.results66]
theorem CheckImport_eq (p : List UInt8) (hp : p.length ≤ 2 ^ 39) (σ) : ev 28 [.str p] σ = some (.int .i64 (importB p), σ) := by
  have hw : ev 68 [.str [45, 46, 95, 126, 43]] σ = some (.fn 109 [.gp σ.length 0 (some (9, 1))], σ ++ [[.str [45, 46, 95, 126, 43]]]) := word_eq _ σ
  have he := elements_eq p [45, 46, 95, 126, 43] hp σ.length (some (9, 1)) (σ ++ [[.str [45, 46, 95, 126, 43]]]) (by simp)
  refine EV_post rfl Tryz.func28 rfl (by simp [Tryz.ntmps28]) (by kernel_rfl) (by kernel_rfl) ?_
  by_cases h : 100 < p.length
  · have e1 : importB p = 13 := by simp [importB, h]
    simp (maxSteps := 4000000) [List.getElem?_cons_zero, List.getElem?_cons_succ, h, e1, Tryz.results28]
  · by_cases e : elemsB [45, 46, 95, 126, 43] p = true
    · have e1 : importB p = 0 := by simp [importB, h, e]
      simp (maxSteps := 4000000) [List.getElem?_cons_zero, List.getElem?_cons_succ, h, hw, he, e, e1, Tryz.results28]
    · have e : elemsB [45, 46, 95, 126, 43] p = false := by simpa using e
      have e1 : importB p = 9 := by simp [importB, h, e]
      simp (maxSteps := 4000000) [List.getElem?_cons_zero, List.getElem?_cons_succ, h, hw, he, e, e1, Tryz.results28]
theorem firstOdd_def (l : List UInt8) : ∃ b, l.any oddB = b := ⟨_, rfl⟩
theorem CheckPath_eq (p : List UInt8) (hp : p.length ≤ 2 ^ 39) (σ) : ev 23 [.str p] σ = some (.int .i64 (pathB p), σ) := by
  have hw : ev 68 [.str [45, 46, 95, 126]] σ = some (.fn 109 [.gp σ.length 0 (some (9, 1))], σ ++ [[.str [45, 46, 95, 126]]]) := word_eq _ σ
  have he := elements_eq p [45, 46, 95, 126] hp σ.length (some (9, 1)) (σ ++ [[.str [45, 46, 95, 126]]]) (by simp)
  have hcl := cutB_le 47 p
  have hlm := lastB_mem p
  have hlx := lixI_eq 47 p
  have hC := Cut1_eq p (by omega) 47
  have hL := LastIndex1_eq p (by omega) 47
  have hM := SplitMajor_eq p hp
  have hlb : lastB p = match lix 47 p with
      | some n => p.drop (n + 1)
      | none => p := rfl
  refine EV_post rfl Tryz.func23 rfl (by simp [Tryz.ntmps23]) (by kernel_rfl) (by kernel_rfl) ?_
  by_cases h : 100 < p.length
  · have e1 : pathB p = 13 := by simp [pathB, h]
    simp (maxSteps := 4000000) [List.getElem?_cons_zero, List.getElem?_cons_succ, h, e1, Tryz.results23]
  · obtain ⟨⟨f, g, more⟩, hk⟩ : ∃ x, cutB 47 p = x := ⟨_, rfl⟩
    obtain ⟨⟨sm, n⟩, hk2⟩ : ∃ x, splitMB p = x := ⟨_, rfl⟩
    rw [hk] at hC hcl
    rw [hk2] at hM
    simp only at hC hcl hM
    have hf1 := Contains1_eq f 46
    obtain ⟨od, hod⟩ := firstOdd_def f
    have hf2 := fun σ => some_eq f (by omega) 66 [] oddB (by decide) σ (fun c => odd_eq c σ)
    rw [hod] at hf2
    by_cases e : elemsB [45, 46, 95, 126] p = true
    · rw [e] at he
      by_cases e2 : 46 ∈ f
      · obtain ⟨c, r, hcr⟩ : ∃ c r, f = c :: r := by cases f with
          | nil => simp at e2
          | cons c r => exact ⟨c, r, rfl⟩
        have g0 : f[0]? = some c := by rw [hcr]; rfl
        have hh : f.head? = some c := by rw [hcr]; rfl
        cases od with
        | true =>
          have e1 : pathB p = 9 := by simp only [pathB, if_neg h, hk]; rw [if_pos (.inr (.inr (.inl hod)))]
          simp (maxSteps := 4000000) [List.getElem?_cons_zero, List.getElem?_cons_succ, h, hw, he, hC, hf1, e2, hf2, e1, Tryz.results23]
        | false =>
          by_cases e3 : c = 45
          · have e1 : pathB p = 9 := by simp only [pathB, if_neg h, hk]; rw [if_pos (.inr (.inr (.inr (by rw [hh, e3]))))]
            subst e3
            simp (maxSteps := 4000000) [List.getElem?_cons_zero, List.getElem?_cons_succ, -getElem?_pos, h, hw, he, hC, hf1, e2, hf2, g0, e1, Tryz.results23]
          · have hfin : pathB p = if more = true ∧ (lastB p).head? = some 118 ∧ allB isD (lastB p).tail = true ∧ n = 0 then 10 else 0 := by
              simp only [pathB, if_neg h, hk, hk2]; rw [if_neg (by simp [e, e2, hod, hh, e3])]
            obtain ⟨q, hq⟩ : ∃ q, lastB p = q := ⟨_, rfl⟩
            rw [hq] at hfin hlm hlb
            have hqe : elemB [45, 46, 95, 126] q = true := List.all_eq_true.1 e q hlm
            obtain ⟨d, t, hdt⟩ : ∃ d t, q = d :: t := by cases q with
              | nil => simp [elemB, allB] at hqe
              | cons c r => exact ⟨c, r, rfl⟩
            have hql : q.length ≤ 2 ^ 39 := by have := splitB_le hlm; omega
            have hx1 : ∃ m : Nat, IntKind.i64.wrap (lixI 47 p + 1) = (m : Int) ∧ m ≤ p.length ∧ List.drop m p = q := by
              cases hx : lix 47 p with
              | none =>
                rw [hx] at hlx hlb
                simp only at hlx hlb
                exact ⟨0, by rw [hlx]; decide, by omega, by rw [hlb]; rfl⟩
              | some i =>
                rw [hx] at hlx hlb
                simp only at hlx hlb
                have := (lix_some hx).1
                exact ⟨i + 1, by rw [hlx, wrap64 (by omega)]; omega, by omega, by rw [hlb]⟩
            obtain ⟨m, hm1, hm2, hm3⟩ := hx1
            have g1 : q[0]? = some d := by rw [hdt]; rfl
            have g2 : q.tail = t := by rw [hdt]; rfl
            have g3 : 1 ≤ q.length := by rw [hdt]; simp
            have hD := allD_eq t (by rw [hdt] at hql; simp at hql; omega)
            have h7 : q.head? = some d := by rw [hdt]; rfl
            have h8 : q.tail = t := by rw [hdt]; rfl
            rw [h7, h8] at hfin
            cases more with
            | false =>
              have e1 : pathB p = 0 := by rw [hfin, if_neg (by simp)]
              simp (maxSteps := 4000000) [List.getElem?_cons_zero, List.getElem?_cons_succ, -getElem?_pos, h, hw, he, hC, hf1, e2, hf2, g0, e3, hL, hm1, hm2, hm3, hM, e1, Tryz.results23]
            | true =>
              by_cases e4 : d = 118
              · by_cases e5 : allB isD t = true
                · by_cases e6 : n = 0
                  · have e1 : pathB p = 10 := by rw [hfin, if_pos (by simp [e4, e5, e6])]
                    subst e4 e6
                    simp (maxSteps := 4000000) [List.getElem?_cons_zero, List.getElem?_cons_succ, -getElem?_pos, h, hw, he, hC, hf1, e2, hf2, g0, e3, hL, hm1, hm2, hm3, hM, g1, g2, g3, hD, e5, e1, Tryz.results23]
                  · have e1 : pathB p = 0 := by rw [hfin, if_neg (by simp [e6])]
                    subst e4
                    simp (maxSteps := 4000000) [List.getElem?_cons_zero, List.getElem?_cons_succ, -getElem?_pos, h, hw, he, hC, hf1, e2, hf2, g0, e3, hL, hm1, hm2, hm3, hM, g1, g2, g3, hD, e5, e6, e1, Tryz.results23]
                · have e1 : pathB p = 0 := by rw [hfin, if_neg (by simp [e5])]
                  subst e4
                  simp (maxSteps := 4000000) [List.getElem?_cons_zero, List.getElem?_cons_succ, -getElem?_pos, h, hw, he, hC, hf1, e2, hf2, g0, e3, hL, hm1, hm2, hm3, hM, g1, g2, g3, hD, e5, e1, Tryz.results23]
              · have e1 : pathB p = 0 := by rw [hfin, if_neg (by simp [e4])]
                simp (maxSteps := 4000000) [List.getElem?_cons_zero, List.getElem?_cons_succ, -getElem?_pos, h, hw, he, hC, hf1, e2, hf2, g0, e3, hL, hm1, hm2, hm3, hM, g1, e4, e1, Tryz.results23]
      · have e1 : pathB p = 9 := by simp only [pathB, if_neg h, hk]; rw [if_pos (.inr (.inl e2))]
        simp (maxSteps := 4000000) [List.getElem?_cons_zero, List.getElem?_cons_succ, h, hw, he, hC, hf1, e2, e1, Tryz.results23]
    · have e : elemsB [45, 46, 95, 126] p = false := by simpa using e
      have e1 : pathB p = 9 := by simp only [pathB, if_neg h, hk]; rw [if_pos (.inl e)]
      simp (maxSteps := 4000000) [List.getElem?_cons_zero, List.getElem?_cons_succ, h, hw, he, hC, e, e1, Tryz.results23]
theorem Matches_eq (v p : List UInt8) (hv : v.length ≤ 2 ^ 39) (hp : p.length ≤ 2 ^ 39) (σ) : ev 27 [.str v, .str p] σ = some (.bool (matchesB v p), σ) := by
  have h1 := read_eq v hv
  have h2 := SplitMajor_eq p hp
  obtain ⟨⟨sm, n⟩, hk2⟩ : ∃ x, splitMB p = x := ⟨_, rfl⟩
  rw [hk2] at h2
  refine EV_post rfl Tryz.func27 rfl (by simp [Tryz.ntmps27]) (by kernel_rfl) (by kernel_rfl) ?_
  cases e1 : readB v with
  | none =>
    rw [e1] at h1
    have h4 : matchesB v p = false := by simp [matchesB, e1]
    simp (maxSteps := 4000000) [List.getElem?_cons_zero, List.getElem?_cons_succ, h1, h2, h4, verA, Tryz.results27]
  | some x =>
    rw [e1] at h1
    have h4 : matchesB v p = (decide (x.ma = n) || (decide (n = 0) && decide (x.ma = 1))) := by simp [matchesB, e1, hk2]
    by_cases d1 : x.ma = n
    · simp (maxSteps := 4000000) [List.getElem?_cons_zero, List.getElem?_cons_succ, h1, h2, h4, d1, verA, Tryz.results27]
    · by_cases d2 : n = 0
      · subst d2
        simp (maxSteps := 4000000) [List.getElem?_cons_zero, List.getElem?_cons_succ, h1, h2, h4, d1, verA, Tryz.results27]
      · simp (maxSteps := 4000000) [List.getElem?_cons_zero, List.getElem?_cons_succ, h1, h2, h4, d1, d2, verA, Tryz.results27]
end Go.Proofs.Tryz.Ai
end
section
/- mewslaw3: first, few. -/
namespace Go.Proofs.Tryz.Ai
open Go Go.AI Go.Proofs
set_option maxHeartbeats 4000000
set_option linter.unusedVariables false

theorem Num_eq (e : Int) (σ) : ev 22 [.int .i64 e] σ = some (.int .i64 e, σ) := by
  refine EV_post rfl Tryz.func22 rfl (by simp [Tryz.ntmps22]) (by kernel_rfl) (by kernel_rfl) ?_
  simp [Tryz.results22]
theorem few_eq (l : List (List UInt8)) (σ) : ev 14 [.sl .sh (l.map .str)] σ = some (.bool (decide (l.length ≤ 60) && l.all fun s => decide (s.length ≤ 2000)), σ) := by
  refine EV_post rfl Tryz.func14 rfl (by simp [Tryz.ntmps14]) (by kernel_rfl) (by kernel_rfl) ?_
  simp (maxSteps := 4000000) (disch := omega) [dT, dF, wrap64]
  refine Post_loop (I := fun i : Nat => ⟨[(0, .sl .sh (l.map .str)), (3, .int .i64 i)], [], σ⟩) (Pr := fun i => i ≤ l.length ∧ i ≤ 61 ∧ ∀ x ∈ l.take i, x.length ≤ 2000) (μ := fun i => l.length - i) (a := 0) (by simp) (by simp) ?_
  rintro i ⟨hi, hj, hn⟩
  by_cases hc : i < l.length
  · obtain ⟨x, hx⟩ : ∃ x, l[i] = x := ⟨_, rfl⟩
    have hx2 : l[i]? = some x := by rw [← hx]; exact List.getElem?_eq_getElem hc
    by_cases hd : i ≤ 60
    · by_cases he : 2000 < x.length
      · have hf : (l.all fun s => decide (s.length ≤ 2000)) = false := by
          rw [Bool.eq_false_iff]; intro h
          have := List.all_eq_true.1 h x (hx ▸ List.getElem_mem hc)
          simp at this; omega
        simp (maxSteps := 4000000) [List.getElem?_cons_zero, List.getElem?_cons_succ, -getElem?_pos, hc, hd, hx2, he, hf, Tryz.results14]
      · have w6 : IntKind.i64.wrap ((i : Int) + 1) = (i : Int) + 1 := wrap64 (by omega)
        have hq : ∀ y ∈ l.take (i + 1), y.length ≤ 2000 := by
          intro y hy
          rw [List.take_succ_eq_append_getElem hc, List.mem_append] at hy
          rcases hy with hy | hy
          · exact hn y hy
          · simp at hy; rw [hy, hx]; omega
        simp (maxSteps := 4000000) [List.getElem?_cons_zero, List.getElem?_cons_succ, -getElem?_pos, hc, hd, hx2, he, w6]
        exact ⟨i + 1, ⟨by omega, by omega, hq⟩, by omega, by simp⟩
    · have hl : ¬ l.length ≤ 60 := by omega
      simp (maxSteps := 4000000) [List.getElem?_cons_zero, List.getElem?_cons_succ, hc, hd, hl, Tryz.results14]
  · have hi' : i = l.length := by omega
    subst hi'
    rw [List.take_length] at hn
    have hf : (l.all fun s => decide (s.length ≤ 2000)) = true := List.all_eq_true.2 fun s hs => by simp [hn s hs]
    simp (maxSteps := 4000000) [List.getElem?_cons_zero, List.getElem?_cons_succ, hc, hf, Tryz.results14]

theorem d1 (n : Nat) (h : n < 10) : Lib.decDigits n = [UInt8.ofNat (48 + n)] := Lib.decDigits_one h
theorem pseudo_const : pseudoB 1 [118, 49, 46, 50, 46, 51] [50, 48, 50, 48, 48, 49, 48, 50, 48, 51, 48, 52, 48, 53] [97, 98, 99, 100, 101, 102, 97, 98, 99, 100, 101, 102] =
    ([118, 49, 46, 50, 46, 52, 45, 48, 46, 50, 48, 50, 48, 48, 49, 48, 50, 48, 51, 48, 52, 48, 53, 45, 97, 98, 99, 100, 101, 102, 97, 98, 99, 100, 101, 102], 0) := by
  have hb : readB [118, 49, 46, 50, 46, 51] = some ⟨1, 2, 3, []⟩ := by decide +kernel
  have hs : stampB [50, 48, 50, 48, 48, 49, 48, 50, 48, 51, 48, 52, 48, 53] = true := by decide +kernel
  have hr : revB [97, 98, 99, 100, 101, 102, 97, 98, 99, 100, 101, 102] = true := by decide +kernel
  have ht : pseudoT (Int.toNat 1) [118, 49, 46, 50, 46, 51] ([50, 48, 50, 48, 48, 49, 48, 50, 48, 51, 48, 52, 48, 53] ++ 45 :: [97, 98, 99, 100, 101, 102, 97, 98, 99, 100, 101, 102]) =
      [118, 49, 46, 50, 46, 52, 45, 48, 46, 50, 48, 50, 48, 48, 49, 48, 50, 48, 51, 48, 52, 48, 53, 45, 97, 98, 99, 100, 101, 102, 97, 98, 99, 100, 101, 102] := by
    unfold pseudoT
    rw [hb]
    simp [coreT, d1]
  have hv : (readB [118, 49, 46, 50, 46, 52, 45, 48, 46, 50, 48, 50, 48, 48, 49, 48, 50, 48, 51, 48, 52, 48, 53, 45, 97, 98, 99, 100, 101, 102, 97, 98, 99, 100, 101, 102]).isSome = true := by decide +kernel
  unfold pseudoB
  rw [if_neg (by omega), if_neg (by simp [hs, hr]), if_neg (by simp [hb])]
  simp only [ht, hv, if_true]
theorem first_eq (σ) : ev 13 [] σ = some (.bool true, σ) := by
  have h1 : ∀ σ, ev 35 [.int .i64 1, .str [118, 49, 46, 50, 46, 51], .str [50, 48, 50, 48, 48, 49, 48, 50, 48, 51, 48, 52, 48, 53], .str [97, 98, 99, 100, 101, 102, 97, 98, 99, 100, 101, 102]] σ =
      some (.tup [.str [118, 49, 46, 50, 46, 52, 45, 48, 46, 50, 48, 50, 48, 48, 49, 48, 50, 48, 51, 48, 52, 48, 53, 45, 97, 98, 99, 100, 101, 102, 97, 98, 99, 100, 101, 102], .int .i64 0], σ) := by
    intro σ; rw [pseudo_eq _ _ _ _ (by simp) (by simp) (by simp), pseudo_const]; rfl
  have h2 : ∀ σ, ev 18 [.str [97, 46, 98, 47, 67, 100]] σ = some (.tup [.str [97, 46, 98, 47, 33, 99, 100], .int .i64 0], σ) := by
    intro σ; rw [Escape_eq _ (by simp), show escR [97, 46, 98, 47, 67, 100] = ([97, 46, 98, 47, 33, 99, 100], 0) by decide +kernel]; rfl
  have h3 : ∀ σ, ev 16 [.str [118, 49, 46, 50, 46, 51]] σ = some (.bool true, σ) := by
    intro σ; rw [Valid_eq _ (by simp), show (readB [118, 49, 46, 50, 46, 51]).isSome = true by decide +kernel]
  have h4 : ∀ σ, ev 16 [.str [118, 49, 46, 50]] σ = some (.bool false, σ) := by
    intro σ; rw [Valid_eq _ (by simp), show (readB [118, 49, 46, 50]).isSome = false by decide +kernel]
  have h5 : ∀ σ, ev 15 [.str [118, 49, 46, 50, 46, 51], .str [118, 49, 46, 49, 48, 46, 48]] σ = some (.int .i64 (-1), σ) := by
    intro σ; rw [cmpB_eq _ _ (by simp) (by simp), show cmpB [118, 49, 46, 50, 46, 51] [118, 49, 46, 49, 48, 46, 48] = -1 by decide +kernel]
  have h6 : ∀ σ, ev 23 [.str [97, 46, 98, 47, 118, 49]] σ = some (.int .i64 10, σ) := by
    intro σ; rw [CheckPath_eq _ (by simp), show pathB [97, 46, 98, 47, 118, 49] = 10 by decide +kernel]; rfl
  refine EV_post rfl Tryz.func13 rfl (by simp [Tryz.ntmps13]) (by kernel_rfl) (by kernel_rfl) ?_
  simp (maxSteps := 4000000) [List.getElem?_cons_zero, List.getElem?_cons_succ, h1, h2, h3, h4, h5, h6, Num_eq, Tryz.results13]
end Go.Proofs.Tryz.Ai
end
section
/- ModOrder. -/
namespace Go.Proofs.Tryz.Ai
open Go Go.AI Go.Proofs
set_option maxHeartbeats 8000000
set_option linter.unusedVariables false

theorem cmpB_valid {a b : List UInt8} (h1 : (readB a).isSome = true) (h2 : (readB b).isSome = false) : cmpB a b = 1 := by
  unfold cmpB
  cases ha : readB a <;> cases hb : readB b <;> simp_all
theorem order_eq (a b c : List UInt8) (σ) : ev 3 [.str a, .str b, .str c] σ = some (.bool true, σ) := by
  have hF := few_eq [a, b, c]
  simp only [List.map_cons, List.map_nil] at hF
  obtain ⟨fw, hfw⟩ : ∃ w, (decide ([a, b, c].length ≤ 60) && [a, b, c].all fun s => decide (s.length ≤ 2000)) = w := ⟨_, rfl⟩
  rw [hfw] at hF
  refine EV_post rfl Tryz.func3 rfl (by simp [Tryz.ntmps3]) (by kernel_rfl) (by kernel_rfl) ?_
  cases fw with
  | false => simp (maxSteps := 4000000) [List.getElem?_cons_zero, List.getElem?_cons_succ, first_eq, hF, Tryz.results3]
  | true =>
    simp at hfw
    obtain ⟨la, lb, lc⟩ := hfw
    have q : ∀ x : Nat, x ≤ 2000 → x ≤ 2 ^ 39 := fun x h => by omega
    have hab := cmpB_eq a b (q _ la) (q _ lb)
    have hbc := cmpB_eq b c (q _ lb) (q _ lc)
    have hac := cmpB_eq a c (q _ la) (q _ lc)
    have hba := cmpB_eq b a (q _ lb) (q _ la)
    have haa := cmpB_eq a a (q _ la) (q _ la)
    have hbb := cmpB_eq b b (q _ lb) (q _ lb)
    have va := Valid_eq a (q _ la)
    have vb := Valid_eq b (q _ lb)
    have hm := Max_eq a b (q _ la) (q _ lb)
    have t := TO.cmp
    have f1 := t.flip a b
    have f2 := t.refl a
    have f3 := t.refl b
    have t1 := t.trans a b c
    have t2 := t.lt_le (a := a) (b := b) (e := c)
    have t3 := t.le_lt (a := a) (b := b) (e := c)
    have sx := t.sgn a b
    have sy := t.sgn b c
    have sz := t.sgn a c
    have ex := t.eq_iff a b
    have ev := @cmpB_valid a b
    rw [f2] at haa
    rw [f3] at hbb
    rw [f1] at hba hm
    generalize (readB a).isSome = wa at va ev
    generalize (readB b).isSome = wb at vb ev
    have hv : wa = false ∨ wb = true ∨ cmpB a b = 1 := by
      cases wa <;> cases wb <;> simp at ev ⊢
      exact ev
    have hgo : cmpB a b ≤ 0 → cmpB b c ≤ 0 → cmpB a c ≤ 0 ∧ (cmpB a c < 0 ∨ (cmpB a b = 0 ∧ cmpB b c = 0)) := by
      intro h1 h2
      have := t1 h1 h2
      rcases Int.lt_or_eq_of_le h1 with h | h
      · exact ⟨this, .inl (t2 h h2)⟩
      · rcases Int.lt_or_eq_of_le h2 with h' | h'
        · exact ⟨this, .inl (t3 h1 h')⟩
        · exact ⟨this, .inr ⟨h, h'⟩⟩
    generalize cmpB b c = y at hbc sy hgo
    generalize cmpB a c = z at hac sz hgo
    clear t t1 t2 t3 ev la lb lc f1 f2 f3
    have wx : IntKind.i64.wrap (0 - cmpB a b) = -cmpB a b := by rcases sx with h | h | h <;> rw [h] <;> decide
    have wx' : IntKind.i64.wrap (-cmpB a b) = -cmpB a b := by rcases sx with h | h | h <;> rw [h] <;> decide
    have hv' : wa = false ∨ (wa = true ∧ wb = true) ∨ cmpB a b = 1 := by cases wa <;> simp_all
    simp (maxSteps := 4000000) [List.getElem?_cons_zero, List.getElem?_cons_succ, first_eq, hF, hab, hbc, hac, hba, haa, wx, wx']
    by_cases hx : cmpB a b = 0
    · have e := ex.1 hx
      subst e
      rw [hx] at hm hv' hgo
      have hv'' : wa = false ∨ (wa = true ∧ wb = true) := by simpa using hv'
      clear ex hv' hv sx
      by_cases hy : y ≤ 0
      · obtain ⟨hz, hz2⟩ := hgo (by omega) hy
        by_cases hz3 : z < 0
        · rcases hv'' with rfl | ⟨rfl, rfl⟩ <;> simp (maxSteps := 4000000) [List.getElem?_cons_zero, List.getElem?_cons_succ, hx, hy, hz, hz3, va, vb, hm, haa]
          all_goals simp (maxSteps := 4000000) [List.getElem?_cons_zero, List.getElem?_cons_succ, hx, va, vb, hm, haa, Tryz.results3]
        · have hy0 : y = 0 := by rcases hz2 with h | h; exact absurd h hz3; exact h.2
          rcases hv'' with rfl | ⟨rfl, rfl⟩ <;> simp (maxSteps := 4000000) [List.getElem?_cons_zero, List.getElem?_cons_succ, hx, hy0, hz, hz3, va, vb, hm, haa, Tryz.results3]
      · rcases hv'' with rfl | ⟨rfl, rfl⟩ <;> simp (maxSteps := 4000000) [List.getElem?_cons_zero, List.getElem?_cons_succ, hx, hy, va, vb, hm, haa, Tryz.results3]
    · have e : ¬ a = b := fun h => hx (ex.2 h)
      have e' : (a == b) = false := by simpa using e
      have e'' : (b == a) = false := by simpa using fun h => e h.symm
      rcases sx with h | h | h
      · rw [h] at hm hv' hgo hba
        have hv'' : wa = false ∨ (wa = true ∧ wb = true) := by simpa using hv'
        clear ex hv' hv
        by_cases hy : y ≤ 0
        · obtain ⟨hz, hz2⟩ := hgo (by omega) hy
          have hz3 : z < 0 := by rcases hz2 with h | h; exact h; omega
          rcases hv'' with rfl | ⟨rfl, rfl⟩ <;> simp (maxSteps := 4000000) [List.getElem?_cons_zero, List.getElem?_cons_succ, h, hy, hz, hz3, va, vb, hm, hba, hbb, e, e', e'', Tryz.results3]
        · rcases hv'' with rfl | ⟨rfl, rfl⟩ <;> simp (maxSteps := 4000000) [List.getElem?_cons_zero, List.getElem?_cons_succ, h, hy, va, vb, hm, hba, hbb, e, e', e'', Tryz.results3]
      · exact absurd h hx
      · rw [h] at hm hba
        cases wa <;> cases wb <;> simp (maxSteps := 4000000) [List.getElem?_cons_zero, List.getElem?_cons_succ, h, hba, haa, hab, va, vb, hm, e, e', e'', Tryz.results3]
end Go.Proofs.Tryz.Ai
end
section
/- A statement's arguments, as the evaluation holds them. No program is in sight. -/
namespace Go.AI
open Go.RowKit Go.ChangeShapes
set_option linter.unusedVariables false

theorem plain_addr {w : World} {a : Addr} {v : Value} (h : w.cell? a = some v) : ∃ b off, a = ⟨b, off, none⟩ := by
  obtain ⟨b, off, s⟩ := a
  cases s with
  | none => exact ⟨b, off, rfl⟩
  | some s =>
    simp only [World.cell?] at h
    split at h <;> simp at h

section
variable {H : Type} {enc : TypeId × Value → H} {P : Program} {W : World} {t e : TypeId} {α : Type}

/-- what is read at a type is a value of α, held as R says; Q: what of the datum -/
structure Reads (enc : TypeId × Value → H) (P : Program) (W : World) (t : TypeId) {α : Type} (R : α → AV) (Q : α → DataW H → Prop) : Prop where
  cells : ∀ a, (R a).cells.length = P.cellsOf t ∧ (∀ c ∈ (R a).cells, plain c = true)
  pos : 0 < P.cellsOf t
  rd : ∀ fuel cs x, DataW.trod enc P W 0 (fun _ => true) true fuel t cs = some x → ∃ a, Q a x.1 ∧ cs.length = P.cellsOf t ∧ ∀ j c, (R a).cells[j]? = some c → Rep W.heap.size gh0 W (cs.getD j undef) c

theorem one_cell {v : Value} {c : AV} (h : Rep W.heap.size gh0 W v c) : ∀ j c', [c][j]? = some c' → Rep W.heap.size gh0 W ([v].getD j undef) c' := by
  intro j c' e
  cases j with
  | zero => simp at e; subst e; exact h
  | succ j => simp at e

theorem Reads.int {k : IntKind} (ht : P.underlying t = some (.int k)) (hc : P.cellsOf t = 1) : Reads enc P W t (fun n : Int => AV.int k n) (fun n d => d = .lit (.int k n) ∧ (Lit.int k n).wf = true) := by
  refine ⟨fun a => ⟨by rw [hc]; rfl, fun c h => by simp [AV.cells] at h; subst h; rfl⟩, by omega, fun fuel cs x h => ?_⟩
  obtain ⟨n, rfl, rfl, hw⟩ := DataW.trod_int ht h
  exact ⟨n, ⟨rfl, hw⟩, by simp [hc], one_cell (.int k n)⟩
theorem Reads.u8 (ht : P.underlying t = some (.int .u8)) (hc : P.cellsOf t = 1) : Reads enc P W t AV.u8 (fun n d => d = .lit (.int .u8 n.toNat)) := by
  refine ⟨fun a => ⟨by rw [hc]; rfl, fun c h => by simp [AV.cells, AV.u8] at h; subst h; rfl⟩, by omega, fun fuel cs x h => ?_⟩
  obtain ⟨n, rfl, rfl, hw⟩ := DataW.trod_int ht h
  have hb := bounds_u8 hw
  obtain ⟨m, rfl⟩ := Int.eq_ofNat_of_zero_le hb.1
  have hm : (UInt8.ofNat m).toNat = m := by simp only [UInt8.toNat_ofNat']; omega
  exact ⟨UInt8.ofNat m, by rw [hm], by simp [hc], one_cell (by rw [AV.u8, hm]; exact .int _ _)⟩
theorem Reads.bool (ht : P.underlying t = some .bool) (hc : P.cellsOf t = 1) : Reads enc P W t AV.bool (fun b d => d = .lit (.bool b)) := by
  refine ⟨fun a => ⟨by rw [hc]; rfl, fun c h => by simp [AV.cells] at h; subst h; rfl⟩, by omega, fun fuel cs x h => ?_⟩
  cases fuel with
  | zero => simp [DataW.trod] at h
  | succ n =>
    unfold DataW.trod at h
    rw [ht] at h
    split at h
    all_goals first
      | (rename_i b _; injection h with h; subst h; exact ⟨b, rfl, by simp [hc], one_cell (.bool _)⟩)
      | (simp at *; done)
theorem Reads.str (ht : P.underlying t = some .string) (hc : P.cellsOf t = 1) : Reads enc P W t AV.str (fun s d => d = .lit (.string s) ∧ s.length ≤ maxLen) := by
  refine ⟨fun a => ⟨by rw [hc]; rfl, fun c h => by simp [AV.cells] at h; subst h; rfl⟩, by omega, fun fuel cs x h => ?_⟩
  obtain ⟨s, rfl, rfl, hw⟩ := DataW.trod_string ht h
  exact ⟨s.data.toList, ⟨rfl, by simpa using hw⟩, by simp [hc], one_cell (.str s)⟩

theorem cells_get {w : World} {a : Addr} {n : Nat} {cs : List Value} (h : w.cells? 0 a n = some cs) : cs.length = n ∧ ∀ j, j < n → w.cell? (a.add j) = some (cs.getD j undef) := by
  unfold World.cells? at h
  rw [if_pos (Nat.zero_le _)] at h
  have hl := mapM_some_length h
  refine ⟨by simpa using hl, fun j hj => ?_⟩
  have h1 := mapM_some_get h j j (by simp [hj])
  have hlt : j < cs.length := by rw [hl]; simpa using hj
  rw [h1, List.getElem?_eq_getElem hlt]
  simp [List.getD, List.getElem?_eq_getElem hlt]

theorem flat_at {α : Type} {R : α → AV} (l : List α) (i j : Nat) (c : AV) (h : ((l.map R)[i]?.bind fun e => e.cells[j]?) = some c) : ∃ a, l[i]? = some a ∧ (R a).cells[j]? = some c := by
  rw [List.getElem?_map] at h
  cases hx : l[i]? with
  | none => rw [hx] at h; cases h
  | some a => rw [hx] at h; exact ⟨a, rfl, h⟩
theorem choose_list {α : Type} {Q : Nat → α → Prop} (n : Nat) (h : ∀ i, i < n → ∃ z, Q i z) : ∃ l : List α, l.length = n ∧ ∀ (i : Nat) (z : α), l[i]? = some z → Q i z := by
  induction n with
  | zero => exact ⟨[], rfl, fun i z e => by simp at e⟩
  | succ n ih =>
    obtain ⟨l, hl, hq⟩ := ih fun i hi => h i (by omega)
    obtain ⟨z, hz⟩ := h n (by omega)
    refine ⟨l ++ [z], by simp [hl], fun i y e => ?_⟩
    rw [List.getElem?_append] at e
    split at e
    · exact hq i y e
    · rename_i hi
      have : i = n := by
        rcases Nat.lt_or_ge (i - l.length) 1 with q | q
        · omega
        · rw [List.getElem?_eq_none (by simpa using q)] at e; cases e
      subst this
      simp [hl] at e; subst e; exact hz

/-- a slice's datum, by its elements' -/
def slQ {α : Type} (Q : α → DataW H → Prop) (l : List α) (d : DataW H) : Prop :=
  (l = [] ∧ d = .nil) ∨ ∃ ds rest, d = .slice ds rest ∧ l.length = ds.length ∧ l.length ≤ maxLen ∧ ∀ (i : Nat) (a : α) (x : DataW H), l[i]? = some a → ds[i]? = some x → Q a x

theorem Reads.slice {R : α → AV} {Q : α → DataW H → Prop} (h : Reads enc P W e R Q) (ht : P.underlying t = some (.slice e)) (hc : P.cellsOf t = 1) : Reads enc P W t (fun l : List α => AV.sl .sh (l.map R)) (slQ Q) := by
  refine ⟨fun a => ⟨by rw [hc]; rfl, fun c q => by simp [AV.cells] at q; subst q; rfl⟩, by omega, fun fuel cs x hx => ?_⟩
  rcases Go.Deep.open_slice ht hx with ⟨rfl, rfl⟩ | ⟨a, len, cap, m, n, D, Pl, rfl, hb, hl, hm, hm2, rfl, hel⟩
  · exact ⟨[], .inl ⟨rfl, rfl⟩, by simp [hc], one_cell (.slnil _)⟩
  · simp only [if_true] at hm2
    subst hm2
    obtain ⟨l, hl2, hq⟩ := choose_list (Q := fun i (z : α) => Q z (D i) ∧ ∀ j, j < P.cellsOf e → ∃ v, W.cell? ((a.add (i * P.cellsOf e)).add j) = some v ∧ ∀ c, (R z).cells[j]? = some c → Rep W.heap.size gh0 W v c) len (by
      intro i hi
      obtain ⟨cs', h1, h2⟩ := hel i (by omega)
      obtain ⟨z, h3, h4, h5⟩ := h.rd _ _ _ h2
      obtain ⟨h6, h7⟩ := cells_get h1
      exact ⟨z, h3, fun j hj => ⟨_, h7 j hj, fun c hc => h5 j c hc⟩⟩)
    subst hl2
    refine ⟨l, .inr ⟨_, _, rfl, by simp, by omega, fun i z x h1 h2 => ?_⟩, by simp [hc], one_cell ?_⟩
    · have hi : i < l.length := (List.getElem?_eq_some_iff.1 h1).1
      rw [List.getElem?_map, List.getElem?_range hi] at h2
      simp at h2; subst h2
      exact (hq i z h1).1
    · by_cases h0 : l = []
      · subst h0; exact   .sl0 a m .sh (by simp) hm
      · have hpos := h.pos
        have hlen : 0 < l.length := List.length_pos_iff.2 h0
        obtain ⟨z0, hz0⟩ : ∃ z, l[0]? = some z := ⟨_, List.getElem?_eq_getElem hlen⟩
        obtain ⟨v0, hv0, _⟩ := (hq 0 z0 hz0).2 0 hpos
        have hadd : ∀ (a : Addr) (i : Nat) b off, a = ⟨b, off, none⟩ → a.add i = ⟨b, off + i, none⟩ := fun a i b off q => by subst q; unfold Addr.add; split <;> simp_all
        obtain ⟨b, off, rfl⟩ : ∃ b off, a = ⟨b, off, none⟩ := by
          obtain ⟨b, off, s⟩ := a
          cases s with
          | none => exact ⟨b, off, rfl⟩
          | some s =>
            obtain ⟨b', off', q⟩ := plain_addr hv0
            simp [Addr.add] at q
        have hrl : (l.map R).length = l.length := by simp
        rw [← hrl]
        rw [hadd _ _ b off rfl, hadd _ _ b _ rfl] at hv0
        have hblk : b < W.heap.size := World.block_lt_of_cell? W _ hv0
        have hall : ∀ k, k < l.length * P.cellsOf e → ∃ z v, l[k / P.cellsOf e]? = some z ∧ W.cell? ⟨b, off + k, none⟩ = some v ∧ ∀ c, (R z).cells[k % P.cellsOf e]? = some c → Rep W.heap.size gh0 W v c := by
          intro k hk
          have hki : k / P.cellsOf e < l.length := (Nat.div_lt_iff_lt_mul hpos).2 hk
          obtain ⟨z, hz⟩ : ∃ z, l[k / P.cellsOf e]? = some z := ⟨_, List.getElem?_eq_getElem hki⟩
          obtain ⟨v, hv, hr⟩ := (hq _ z hz).2 (k % P.cellsOf e) (Nat.mod_lt _ hpos)
          have : (Addr.add (Addr.add ⟨b, off, none⟩ (k / P.cellsOf e * P.cellsOf e)) (k % P.cellsOf e)) = ⟨b, off + k, none⟩ := by
            rw [hadd _ _ b off rfl, hadd _ _ b _ rfl]
            have := Nat.div_add_mod k (P.cellsOf e)
            rw [Nat.mul_comm] at this
            rw [Nat.add_assoc, this]
          rw [this] at hv
          exact ⟨z, v, hz, hv, hr⟩
        refine .sl b off m (P.cellsOf e) .sh (l.map R) (fun k => (W.cell? ⟨b, off + k, none⟩).getD undef) (by simp) hpos (by simpa using hl) hm ?_ ?_ ?_
        · intro x hx
          obtain ⟨z, _, rfl⟩ := List.mem_map.1 hx
          exact h.cells z
        · intro k hk
          obtain ⟨z, v, h1, h2, h3⟩ := hall k (by simpa using hk)
          exact ⟨by rw [h2]; rfl, .inl hblk⟩
        · intro i j c hc'
          obtain ⟨z, hz, hzc⟩ := flat_at l i j c hc'
          have hi : i < l.length := (List.getElem?_eq_some_iff.1 hz).1
          have hj : j < P.cellsOf e := by rw [← (h.cells z).1]; exact (List.getElem?_eq_some_iff.1 hzc).1
          obtain ⟨z', v, h1, h2, h3⟩ := hall (i * P.cellsOf e + j) (by
            have : (i + 1) * P.cellsOf e ≤ l.length * P.cellsOf e := Nat.mul_le_mul_right _ hi
            rw [Nat.add_mul] at this; omega)
          have e1 : (i * P.cellsOf e + j) / P.cellsOf e = i := by rw [Nat.mul_comm, Nat.mul_add_div hpos, Nat.div_eq_of_lt hj]; rfl
          have e2 : (i * P.cellsOf e + j) % P.cellsOf e = j := by rw [Nat.mul_comm, Nat.mul_add_mod, Nat.mod_eq_of_lt hj]
          rw [e1, hz] at h1; injection h1 with h1; subst h1
          rw [e2] at h3
          simp only [h2, Option.getD_some]
          exact h3 c hzc

def oneT (d : Option TypeDesc) : Bool := match d with
  | some (.int _) => true
  | some .string => true
  | some .bool => true
  | some (.slice _) => true
  | _ => false
theorem val_one {r : Reach} {b0 : Nat} {v : Value} (hk : oneT (P.underlying t) = true) (h : Value.okWide P W r b0 t v) : v.cells = #[v] := by
  unfold Value.okWide at h
  cases hd : P.underlying t with
  | none => rw [hd] at hk; cases hk
  | some d =>
    rw [hd] at hk h
    cases d <;> simp only [oneT, Bool.false_eq_true] at hk
    all_goals
      simp only at h
      unfold Cell.okWide at h
      rw [hd] at h
      try unfold Cell.ok at h
      try rw [hd] at h
      cases v <;> first | rfl | (simp at h)

theorem Reads.arg1 {R : α → AV} {Q : α → DataW H → Prop} (h : Reads enc P W t R Q) (hR : ∀ a, (R a).cells = [R a]) (hk : oneT (P.underlying t) = true) {r : Reach} {b0 : Nat} {v : Value} {d : DataW H} {p : List MemPlace}
    (hv : Value.okWide P W r b0 t v) (ht : DataW.Trod enc P W 0 (fun _ => true) true t v d p) : ∃ a, Q a d ∧ Rep W.heap.size gh0 W v (R a) ∧ pers (R a) = true ∧ quiet (R a) = true := by
  obtain ⟨fuel, hf⟩ := ht
  rw [val_one hk hv] at hf
  obtain ⟨a, h1, h2, h3⟩ := h.rd _ _ _ hf
  have h4 := (h.cells a).2 (R a) (by rw [hR]; simp)
  simp only [plain, Bool.and_eq_true] at h4
  refine ⟨a, h1, by have := h3 0 (R a) (by rw [hR]; rfl); simpa using this, ?_, h4.2⟩
  have h5 := h4.1
  cases hq : R a <;> rw [hq] at h5 <;> first | rfl | simp [cell1] at h5
theorem Reads.argS {R : α → AV} {Q : α → DataW H → Prop} (h : Reads enc P W t R Q) (hR : ∀ a, ∃ cs, R a = .agg cs) {fs : Array Field} (hk : P.underlying t = some (.struct fs)) {r : Reach} {b0 : Nat} {v : Value} {d : DataW H} {p : List MemPlace}
    (hv : Value.okWide P W r b0 t v) (ht : DataW.Trod enc P W 0 (fun _ => true) true t v d p) : ∃ a, Q a d ∧ Rep W.heap.size gh0 W v (R a) ∧ pers (R a) = true ∧ quiet (R a) = true := by
  obtain ⟨fuel, hf⟩ := ht
  unfold Value.okWide at hv
  rw [hk] at hv
  obtain ⟨vs, rfl, _, _⟩ := hv
  obtain ⟨a, h1, h2, h3⟩ := h.rd _ _ _ hf
  obtain ⟨cs, hcs⟩ := hR a
  have h4 := h.cells a
  rw [hcs] at h4 h3
  simp only [Value.cells, AV.cells] at h2 h3 h4
  refine ⟨a, h1, ?_⟩
  rw [hcs]
  refine ⟨.agg vs cs (by rw [h4.1, ← h2]; simp) h4.2 fun j c hc => ?_, rfl, rfl⟩
  have := h3 j c hc
  simpa [Array.getD_eq_getD_getElem?, List.getD] using this
/-- behind the call the arguments read as they did -/
theorem trodAll_keep (hl : laidOutB P = true) {W' : World} (hb : Below W.heap.size W W') : ∀ {ts : List TypeId} {vs : List Value} {ds : List (DataW H)} {ps : List MemPlace}, (∀ t ∈ ts, P.readableRec t = true ∧ t < P.types.size) →
    DataW.TrodAll enc P W 0 (fun _ => true) true ts vs ds ps → (∀ x ∈ ps, x.block < W.heap.size) → DataW.TrodAll enc P W' 0 (fun b => decide (b < W.heap.size)) true ts vs ds ps
  | [], [], [], ps, _, h, _ => h
  | t :: ts, [], [], ps, _, h, _ => by simp [DataW.TrodAll] at h
  | [], v :: vs, [], ps, _, h, _ => by simp [DataW.TrodAll] at h
  | [], [], d :: ds, ps, _, h, _ => by simp [DataW.TrodAll] at h
  | t :: ts, v :: vs, [], ps, _, h, _ => by simp [DataW.TrodAll] at h
  | t :: ts, [], d :: ds, ps, _, h, _ => by simp [DataW.TrodAll] at h
  | [], v :: vs, d :: ds, ps, _, h, _ => by simp [DataW.TrodAll] at h
  | t :: ts, v :: vs, d :: ds, ps, ht, h, hp => by
    obtain ⟨p, q, h1, h2, rfl⟩ := h
    refine ⟨p, q, Below.trod hl (ht t (by simp)).1 (ht t (by simp)).2 h1 hb fun x hx => hp x (List.mem_append_left _ hx), ?_, rfl⟩
    exact trodAll_keep hl hb (fun t h => ht t (List.mem_cons_of_mem _ h)) h2 fun x hx => hp x (List.mem_append_right _ hx)
theorem laidVars_mem {w : World} : ∀ {laid : List (String × DataW Unit)} {ps : List MemPlace} {n : String} {d : DataW Unit}, DataW.LaidVars P w laid ps → (n, d) ∈ laid →
    ∃ g t cs fuel p, P.globalNamed n = some g ∧ (P.globals[g]?).map (·.type) = some t ∧ w.var? P n = some cs ∧ DataW.trod (fun _ => ()) P w 0 (fun _ => true) false fuel t cs.toList = some (d, p)
  | [], _, _, _, _, hm => by cases hm
  | x :: r, ps, n, d, h, hm => by
    obtain ⟨g, t, cs, fuel, p, q, h1, h2, h3, h4, h5, _⟩ := h
    rcases List.mem_cons.1 hm with e | hm
    · subst e; exact ⟨g, t, cs, fuel, p, h1, h2, h3, h4⟩
    · exact laidVars_mem h5 hm
theorem tabIs_of_mem {name : String} {k : IntKind} {zs : List Int} {laid : List (String × DataW Unit)} {g : Nat} {n : Nat} (hm : (name, Lib.tabData k zs) ∈ laid)
    (hg : P.globalNamed name = some g) (hty : (P.globals[g]?).map (·.type) = some t) (ht : P.underlying t = some (.array n e)) (he : P.underlying e = some (.int k)) (hce : P.cellsOf e = 1) (hct : P.cellsOf t = n)
    (h : laidMet P laid W) : Lib.TabIs P W name k zs := by
  obtain ⟨ps, hl, _⟩ := h
  obtain ⟨g', t', cs, fuel, p, hg', ht', hvar, hd⟩ := laidVars_mem hl hm
  obtain rfl := Option.some.inj (hg.symm.trans hg')
  obtain rfl := Option.some.inj (hty.symm.trans ht')
  unfold Lib.TabIs
  rw [hvar, ← Lib.cells_of_tab ht he hce hct hd]
end
end Go.AI
end
section
/- The frame of ModOrder: from the evaluation to the given statement. -/
namespace Go.Proofs.YthdpejligoblbaaGreatDoor.modOrder
open Go Go.AI Go.ChangeShapes Go.WideShapes Go.ChangeAt Go.RowKit
set_option linter.unusedVariables false

theorem own : ownKnob Tryz.prog.godebug = none := by kernel_rfl
theorem mixed : Tryz.prog.follows .mixedOrders = true := by kernel_rfl
theorem laidOut : laidOutB Tryz.prog = true := by kernel_rfl

theorem walk (a0 : List UInt8) (a1 : List UInt8) (a2 : List UInt8) (v0 v1 v2 : Value) (W : World) (hl : Go.Proofs.Tryz.Ai.Laid W) (r0 : Rep W.heap.size gh0 W v0 (.str a0)) (r1 : Rep W.heap.size gh0 W v1 (.str a1)) (r2 : Rep W.heap.size gh0 W v2 (.str a2))
    (he : Go.Proofs.Tryz.Ai.ev 3 [.str a0, .str a1, .str a2] [] = some (.bool true, [])) :
    Calls Tryz.prog 3 #[v0, v1, v2] W fun e w' => e = .returned (.bool true) ∧ Below W.heap.size W w' :=
  Go.AI.top (s' := []) mixed rfl (Go.Proofs.Tryz.Ai.T_ok hl) (by rfl)
    (fun j c h => by
      match j, h with
      | 0, h => simp at h; subst h; exact ⟨r0, rfl, rfl⟩
      | 1, h => simp at h; subst h; exact ⟨r1, rfl, rfl⟩
      | 2, h => simp at h; subst h; exact ⟨r2, rfl, rfl⟩
      | j + 3, h => simp at h)
    he

/-- the table of powers, as the row lays it -/
theorem laid_of {W : World} (hL : laidMet Tryz.prog Rows.modOrderRow.laid W) : Go.Proofs.Tryz.Ai.Laid W :=
  tabIs_of_mem (g := 3) (t := 138) (e := 121) (n := 20) (by
    have : ("internal/strconv.uint64pow10", Rows.laid_internal_strconv_uint64pow10) ∈ Rows.modOrderRow.laid := by simp [Rows.modOrderRow]
    have e : (Rows.laid_internal_strconv_uint64pow10 : DataW Unit) = Lib.tabData .u64 Lib.pow10Tab := by kernel_rfl
    rw [e] at this; exact this) (by kernel_rfl) (by kernel_rfl) Tryz.underlying138 Tryz.underlying121 (by kernel_rfl) (by kernel_rfl) hL

theorem readable : ∀ t ∈ Tryz.f3.params.toList, Tryz.prog.readableRec t = true ∧ t < Tryz.prog.types.size := by
  rw [Tryz.params3]
  intro t ht
  simp only [List.mem_cons, List.mem_nil_iff, or_false] at ht
  rcases ht with rfl | rfl | rfl <;> exact ⟨by kernel_rfl, of_decide_eq_true (by kernel_rfl)⟩

set_option maxRecDepth 100000 in
theorem contract (H : Type) (enc : TypeId × Value → H) (W : World) (base : Nat) (args : Array Value) (ds gs : List (DataW H)) (before : List MemPlace)
    (hval : ∀ (j : Nat) t v, Tryz.f3.params[j]? = some t → args[j]? = some v → Value.okWide Tryz.prog W .any base t v)
    (hW : DataW.Whole enc Tryz.prog Tryz.f3.params.toList Rows.modOrderSpec.vars false W args.toList ds gs before) (hl : Go.Proofs.Tryz.Ai.Laid W) :
    Calls Tryz.prog 3 args W fun e W' => ∃ v, e = .returned v ∧ Rows.modOrderSpec.post enc Tryz.prog Tryz.f3 false true false false W args v W' := by
  have hW' := hW
  obtain ⟨p, q, hA0, hV, rfl, hfz, hnd⟩ := hW
  have hA : DataW.TrodAll enc Tryz.prog W 0 (fun _ => true) true Tryz.f3.params.toList args.toList ds p := hA0
  have hAk := hA
  rw [Tryz.params3] at hA hval
  obtain ⟨v0, vs0, d0, ds0, p0, q0, hargs0, rfl, rfl, h0, r0⟩ := trodAll_cons hA
  obtain ⟨v1, vs1, d1, ds1, p1, q1, hargs1, rfl, rfl, h1, r1⟩ := trodAll_cons r0
  obtain ⟨v2, vs2, d2, ds2, p2, q2, hargs2, rfl, rfl, h2, r2⟩ := trodAll_cons r1
  obtain ⟨e1, e2, e3⟩ := trodAll_nil r2
  obtain rfl : args = #[v0, v1, v2] := by cases args; simp_all
  subst e2 e3
  obtain ⟨rfl, rfl⟩ := trodVars_none hV
  obtain ⟨a0, Q0, R0, _⟩ := (Reads.str Tryz.underlying9 (by kernel_rfl)).arg1 (enc := enc) (W := W) (fun _ => rfl) (by kernel_rfl) (hval 0 9 v0 rfl rfl) h0
  obtain ⟨a1, Q1, R1, _⟩ := (Reads.str Tryz.underlying9 (by kernel_rfl)).arg1 (enc := enc) (W := W) (fun _ => rfl) (by kernel_rfl) (hval 1 9 v1 rfl rfl) h1
  obtain ⟨a2, Q2, R2, _⟩ := (Reads.str Tryz.underlying9 (by kernel_rfl)).arg1 (enc := enc) (W := W) (fun _ => rfl) (by kernel_rfl) (hval 2 9 v2 rfl rfl) h2
  have hlt : ∀ x ∈ (p0 ++ p1 ++ p2 : List MemPlace), True := fun _ _ => trivial
  refine (walk a0 a1 a2 v0 v1 v2 W hl R0 R1 R2 (by have := Go.Proofs.Tryz.Ai.order_eq a0 a1 a2 []; exact this)).mono fun e W' ⟨he, bel⟩ => ?_
  subst he
  exact ⟨_, rfl, _, _, _, [], _, [], hW', trodAll_mk1 (shut_bool Tryz.underlying4 _), trodAll_keep laidOut bel readable hAk (fun x hx => by simpa using hW'.lt x (by simpa using hx)), rfl, bel.frame _, fun h => by cases h⟩

noncomputable def laidWorld (os : Os) : World := World.laidAll Tryz.prog os Rows.modOrderRow.laid
theorem laid_met (os : Os) : laidMet Tryz.prog Rows.modOrderRow.laid ((laidWorld os).forCall (fun _ _ => 0) ⟨#[], #[.string ⟨#[]⟩, .string ⟨#[]⟩, .string ⟨#[]⟩], []⟩).memory :=
  laidMet_laidAll _ (by kernel_rfl) (by kernel_rfl)
theorem reads (os : Os) {H : Type} (enc : TypeId × Value → H) : ∃ places, DataW.whole enc Tryz.prog ((laidWorld os).forCall (fun _ _ => 0) ⟨#[], #[.string ⟨#[]⟩, .string ⟨#[]⟩, .string ⟨#[]⟩], []⟩).memory Tryz.f3.params.toList Rows.modOrderSpec.vars false (#[.string ⟨#[]⟩, .string ⟨#[]⟩, .string ⟨#[]⟩] : Array Value).toList 8 = some ([.lit (.string []), .lit (.string []), .lit (.string [])], [], places) :=
  ⟨[], by kernel_rfl⟩
theorem witness (os : Os) {H : Type} (enc : TypeId × Value → H) : ∃ (w : World) (tape : Tape) (i : Input), w.os = os ∧ (w.forCall tape i).Shaped Tryz.checked.prog ∧ i.vars = [] ∧ Input.okWide Tryz.checked.prog (w.forCall tape i) .any w.heap.size 3 i ∧
    (OpenSpec.ofChange Rows.modOrderSpec).preRow enc Tryz.checked.prog Tryz.f3 Rows.modOrderRow.domain false Rows.modOrderRow.laid (w.forCall tape i).memory i.args ∧ ({} : Assume).holds Tryz.checked.prog (lone (Frame.enter Tryz.checked.prog 3 i.args .normal) [] (w.forCall tape i)) := by
  obtain ⟨places, hx⟩ := reads os enc
  have hok : Input.okWideB Tryz.checked.prog ((laidWorld os).forCall (fun _ _ => 0) ⟨#[], #[.string ⟨#[]⟩, .string ⟨#[]⟩, .string ⟨#[]⟩], []⟩) 3 ⟨#[], #[.string ⟨#[]⟩, .string ⟨#[]⟩, .string ⟨#[]⟩], []⟩ = true := by kernel_rfl
  exact ⟨laidWorld os, fun _ _ => 0, ⟨#[], #[.string ⟨#[]⟩, .string ⟨#[]⟩, .string ⟨#[]⟩], []⟩, World.laidAll_os _ _ _, World.shaped_of_ZipB (by kernel_rfl) (by kernel_rfl), (Input.okWide_of_okWideB (base := 0) hok).1, (Input.okWide_of_okWideB hok).2,
    OpenSpec.preRow_of_cond 8 hx (by kernel_rfl) (fun k hk => by cases hk) (by kernel_rfl) (laid_met os), by
    simp only [Assume.holds]
    exact ⟨by simp, by simp, fun _ => Modest.zero, by simp, by simp⟩⟩

set_option maxRecDepth 100000 in
theorem lifted (os : Os) (started : os.Started) (H : Type) (enc : TypeId × Value → H) (F : Stop.Interp) :
    ReturnsInHanded {} Tryz.checked os 3 .any ((OpenSpec.ofChange Rows.modOrderSpec).preRow enc Tryz.prog Tryz.f3 Rows.modOrderRow.domain false Rows.modOrderRow.laid) (((OpenSpec.ofChange Rows.modOrderSpec).at F).post enc Tryz.prog Tryz.f3 false true false false) := by
  refine returnsInHanded_of_row (C := Tryz.checked) (s := (OpenSpec.ofChange Rows.modOrderSpec)) own started (by kernel_rfl) Tryz.func3 (witness os enc) ?_
  intro W base args ds gs before hval hW _ hcond _ hL _ _
  exact contract H enc W base args ds gs before hval hW (laid_of (by rw [← MakeChecks.laidMetH_plain _ _ _ (by kernel_rfl)]; exact hL))

theorem said : Rows.ModOrderSaid :=
  OpenClaim.holds_of_cond 3 Tryz.f3 rfl rfl rfl rfl rfl rfl rfl ⟨rfl, rfl, rfl, rfl, rfl⟩ rfl rfl rfl rfl rfl (by kernel_rfl) Tryz.func3 (by kernel_rfl)
    (of_decide_eq_true (by kernel_rfl)) (by unfold Func.isWrapper; first | (rw [if_pos (by decide +kernel)]; kernel_rfl) | (rw [if_neg (by decide +kernel)]; exact ⟨rfl, rfl⟩))
    (fun os started H enc _ F => by rw [OpenClaim.pre_eq_preRow]; exact lifted os started H enc F)

theorem plain (f : FuncId) (fn : Func) (hf : Tryz.pinned.checked.prog.funcNamed "mews/mewslaw3.ModOrder" = some f) (hfn : Tryz.pinned.checked.prog.funcs[f]? = some fn) :
    true = Tryz.pinned.checked.prog.looks [] ∧ ∀ (j : Nat) t, fn.params[j]? = some t → Tryz.pinned.checked.prog.wantsStandIn t = false := by
  obtain rfl : f = 3 := Option.some.inj ((show Tryz.prog.funcNamed "mews/mewslaw3.ModOrder" = some 3 by kernel_rfl).symm.trans hf) |>.symm
  obtain rfl : fn = Tryz.f3 := (Option.some.inj (Tryz.func3.symm.trans hfn)).symm
  refine ⟨by kernel_rfl, fun j t ht => ?_⟩
  have hm : t ∈ Tryz.f3.params.toList := Array.mem_toList_iff.2 (Array.mem_of_getElem? ht)
  rw [Tryz.params3] at hm
  simp only [List.mem_cons, List.mem_nil_iff, or_false] at hm
  rcases hm with rfl | rfl | rfl
  · exact (show Tryz.prog.wantsStandIn 9 = false by kernel_rfl)
  · exact (show Tryz.prog.wantsStandIn 9 = false by kernel_rfl)
  · exact (show Tryz.prog.wantsStandIn 9 = false by kernel_rfl)

/-- the card -/
theorem card : Rows.ModOrderCardSaid :=
  Claim7.holds_tied_plain_at .later [] _ _ _ _ said (fun _ h => by cases h) (by kernel_rfl) (fun _ h => by cases h) modOrder_row_tie rfl ⟨rfl, rfl⟩ (by kernel_rfl) rfl plain (by kernel_rfl)
end Go.Proofs.YthdpejligoblbaaGreatDoor.modOrder
end
