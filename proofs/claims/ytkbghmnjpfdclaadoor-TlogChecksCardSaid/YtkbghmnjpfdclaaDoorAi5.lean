/- Part 5 of a proof: a Go function is evaluated on abstract values (texts Sha5 .. FChecks); no conditions beyond those of each theorem. -/
import Derived.Test.YtkbghmnjpfdclaaDoorAi4
import Derived.OpenShut
import Derived.Carry
import Derived.Deep.Slices
import Derived.ChangeOld
import Derived.Lib.LaidTab
import Derived.Test.YtkbghmnjpfdclaaDoorCards
import Derived.Test.YtkbghmnjpfdclaaDoorTie
import Derived.WalkKit
import Derived.ProofKit
import Derived.Below
import Derived.Deep.DeepHandedRow
import Derived.Lay
import Derived.MakeChecks
set_option linter.all false
set_option linter.unusedVariables false
set_option linter.unusedSimpArgs false
set_option linter.unnecessarySimpa false
section
/- SHA-256, walked. -/
namespace Go.Proofs.Tryd.Ai
open Go Go.AI Go.Proofs
set_option maxHeartbeats 4000000

theorem cs_facts (x : V8) : x.cs.length = 8 ∧ x.cs.map dem = x.cs ∧ x.cs.take 8 = x.cs ∧ x.cs.drop 8 = [] := ⟨rfl, rfl, rfl, rfl⟩

theorem block_cs (s : V8) (b : List UInt8) (hb : b.length = 64) (o : Own) (c : Nat) (sh : Option (TypeId × Nat)) (σ) (hc : σ[c]? = some (kConst.map (.int .u32))) :
    ev 97 [.agg s.cs, .sl o (b.map .u8), .gp c 0 sh] σ = some (.agg (blockV kConst s b).cs, σ) := block_eq s b hb o kConst rfl c sh σ hc

theorem lenB_succ (n i : Nat) : lenB n (i + 1) = lenB n i ++ [b8 (((8 * n : Nat) : Int).fdiv (2 ^ (56 - 8 * i)))] := by simp [lenB, List.range_succ]
theorem cs_get (x : V8) (j : Nat) (h : j < 8) : x.cs[j]? = some (.int .u32 (x.l.getD j 0)) := list_get x.l j 8 rfl h
theorem out_succ (x : V8) (j : Nat) (h : j < 8) : (x.l.take (j + 1)).flatMap out4 = (x.l.take j).flatMap out4 ++ out4 (x.l.getD j 0) := by
  have hl : j < x.l.length := h
  rw [List.take_succ_eq_append_getElem hl, List.flatMap_append]
  simp [List.getD, hl]
theorem padN_eq (n k : Nat) (h : k ≤ padN n) : (n % 64 + 1 + k) % 64 = 56 ↔ k = padN n := by unfold padN at *; omega
theorem tailB_len (b : List UInt8) : (tailB b).length % 64 = 0 ∧ (tailB b).length ≤ 128 := by
  have h1 : (tailB b).length = (b.length - b.length / 64 * 64) + 1 + padN b.length + 8 := by simp [tailB, lenB]; omega
  rw [h1]; unfold padN; omega

theorem SHA256_eq (o : Own) (b : List UInt8) (hl : b.length ≤ 1073741824) (σ) : ev 76 [.sl o (b.map .u8)] σ = some (.sl (.ex 5 1) ((sha256 b).map .u8), σ) := by
  refine EV_post rfl Tryd.func76 rfl (by simp [Tryd.ntmps76]) (by kernel_rfl) (by kernel_rfl) ?_
  have hk := constants_eq σ
  have hi : ev 96 [] (σ ++ [kConst.map (.int .u32)]) = some (.agg vInit.cs, σ ++ [kConst.map (.int .u32)]) := initial_eq _
  have hblk := fun (s : V8) (b : List UInt8) (hb : b.length = 64) => block_cs s b hb .sh σ.length (some (124, 64)) (σ ++ [kConst.map (.int .u32)]) (by simp)
  obtain ⟨K, hK⟩ : ∃ K, kConst.map (AV.int .u32) = K := ⟨_, rfl⟩
  have hKd : K.map dem = K := by rw [← hK]; exact map_dem_int
  have hKl : K.length = 64 := by rw [← hK]; rfl
  have hKt : K.take 64 = K := List.take_of_length_le (by omega)
  have hKdr : K.drop 64 = [] := List.drop_eq_nil_of_le (by omega)
  have hKq : lowL σ.length K := by rw [← hK]; simp
  rw [hK] at hk hi hblk
  clear hK
  obtain ⟨i1, i2, i3, i4⟩ := cs_facts vInit
  obtain ⟨W, hW⟩ : ∃ W, b.length / 64 = W := ⟨_, rfl⟩
  have e1 : IntKind.i64.wrap ((b.length : Int) / 64) = (W : Int) := by rw [wrap64 (by omega)]; omega
  obtain ⟨W6, hW6⟩ : ∃ W6, W * 64 = W6 := ⟨_, rfl⟩
  have e2 : IntKind.i64.wrap ((W : Int) * 64) = (W6 : Int) := by rw [wrap64 (by omega)]; omega
  simp (maxSteps := 4000000) [hk, hi, hKd, hKl, hKt, hKdr, i1, i2, i3, i4, e1, e2]
  clear hk hi i1 i2 i3 i4 e1 e2
  -- the whole blocks
  refine Post_loop (I := fun p : Nat × Nat => ⟨[(0, .sl o (b.map .u8)), (3, .gp σ.length 0 (some (124, 64))), (4, .lp 4 0), (5, .int .i64 W6), (6, .int .i64 p.2)], [(4, (blocksV vInit b p.1).cs)], σ ++ [K]⟩)
    (Pr := fun p => p.2 = 64 * p.1 ∧ p.1 ≤ W) (μ := fun p => W - p.1) (a := (0, 0)) (by simp [blocksV]) (by simp) ?_
  rintro ⟨n, m⟩ ⟨hm, hn⟩
  simp only at hm hn ⊢
  obtain ⟨x, hx⟩ : ∃ x, blocksV vInit b n = x := ⟨_, rfl⟩
  obtain ⟨i1, i2, i3, i4⟩ := cs_facts x
  rw [hx]
  by_cases hc : m < W6
  · have q1 : (m : Int) < W6 := by omega
    have q2 : m + 64 ≤ b.length := by omega
    have w1 : IntKind.i64.wrap ((m : Int) + 64) = ((m + 64 : Nat) : Int) := by rw [wrap64 (by omega)]; omega
    have hb := hblk x ((b.drop m).take 64) (by simp; omega)
    obtain ⟨y, hy⟩ : ∃ y, blockV kConst x ((b.drop m).take 64) = y := ⟨_, rfl⟩
    rw [hy] at hb
    obtain ⟨j1, j2, j3, j4⟩ := cs_facts y
    obtain ⟨m2, hm2⟩ : ∃ m2, m + 64 = m2 := ⟨_, rfl⟩
    have hsl : ((b.map AV.u8).take m2).drop m = (((b.drop m).take 64).map AV.u8) := by
      rw [← hm2, List.drop_take, show m + 64 - m = 64 by omega, List.map_take, List.map_drop]
    have q3 : m ≤ m2 := by omega
    rw [hm2] at q2 w1
    have hfin : blocksV vInit b (n + 1) = y := by rw [blocksV, hx, ← hy, hm]
    clear hblk
    simp (maxSteps := 4000000) [-List.map_take, -List.map_drop, q1, q2, q3, w1, hb, i1, i2, i3, i4, j1, j2, j3, j4, hKl, hsl]
    exact ⟨n + 1, m2, ⟨by omega, by omega⟩, by omega, rfl, by rw [hfin]⟩
  have hnW : n = W := by omega
  subst hnW
  obtain rfl : m = W6 := by omega
  have c1 : ¬ (m : Int) < m := by omega
  have hdl : (b.drop m).length = b.length - m := by simp
  have hfr := fresh_eq .sh (b.drop m) (by omega) (σ ++ [K])
  have hsl : (b.map AV.u8).drop m = (b.drop m).map AV.u8 := by rw [List.map_drop]
  have q1 : m ≤ b.length := by omega
  obtain ⟨D, hD⟩ : ∃ D, b.drop m = D := ⟨_, rfl⟩
  rw [hD] at hfr hsl hdl
  have q2 : D.length + 1 ≤ most := by unfold most; omega
  have q3 : D.length + 1 = b.length % 64 + 1 := by omega
  simp (maxSteps := 4000000) [-List.map_take, -List.map_drop, c1, hsl, hfr, q1, q2]
  clear hfr hsl c1
  -- zeros
  refine Post_loop (I := fun k : Nat => ⟨[(0, .sl o (b.map .u8)), (3, .gp σ.length 0 (some (124, 64))), (4, .lp 4 0), (7, .sl (.ex 5 1) ((D ++ [128] ++ List.replicate k 0).map .u8))], [(4, x.cs)], σ ++ [K]⟩)
    (Pr := fun k => k ≤ padN b.length) (μ := fun k => padN b.length - k) (a := 0) (by simp) (by omega) ?_
  intro k hk
  have hp64 : padN b.length < 64 := Nat.mod_lt _ (by omega)
  have hpe := padN_eq b.length k hk
  obtain ⟨L, hL⟩ : ∃ L, D ++ [128] ++ List.replicate k 0 = L := ⟨_, rfl⟩
  have hLl : L.length = b.length % 64 + 1 + k := by rw [← hL]; simp; omega
  simp only [hL]
  by_cases hc : k = padN b.length
  rotate_left
  · have c1 : ¬ ((L.length : Int).tmod 64 = 56) := by rw [Int.tmod_eq_emod_of_nonneg (by omega), hLl]; omega
    have q4 : L.length + 1 ≤ most := by unfold most; omega
    simp (maxSteps := 4000000) [c1, q4]
    refine ⟨k + 1, by omega, by omega, ?_⟩
    rw [← hL, List.replicate_succ']; simp
  have c1 : ((L.length : Int).tmod 64 = 56) := by rw [Int.tmod_eq_emod_of_nonneg (by omega), hLl]; omega
  simp (maxSteps := 4000000) [c1]
  clear c1
  -- the length
  refine Post_loop (I := fun i : Nat => ⟨[(0, .sl o (b.map .u8)), (3, .gp σ.length 0 (some (124, 64))), (4, .lp 4 0), (7, .sl (.ex 5 1) ((L ++ lenB b.length i).map .u8)), (44, .int .i64 i)], [(4, x.cs)], σ ++ [K]⟩)
    (Pr := fun i => i ≤ 8) (μ := fun i => 8 - i) (a := 0) (by simp [lenB]) (by omega) ?_
  intro i hi
  obtain ⟨M, hM⟩ : ∃ M, L ++ lenB b.length i = M := ⟨_, rfl⟩
  have hMl : M.length = L.length + i := by rw [← hM]; simp [lenB]
  simp only [hM]
  by_cases hi8 : i < 8
  · have q4 : (i : Int) < 8 := by omega
    obtain ⟨j, hj⟩ : ∃ j, 56 - 8 * i = j := ⟨_, rfl⟩
    have e1 : IntKind.i64.wrap (56 - 8 * (i : Int)) = (j : Int) := by rw [wrap64 (by omega)]; omega
    have e2 : IntKind.i64.wrap (8 * (i : Int)) = 8 * (i : Int) := wrap64 (by omega)
    have e3 : IntKind.i64.wrap (8 * (b.length : Int)) = 8 * (b.length : Int) := wrap64 (by omega)
    have e4 : IntKind.i64.wrap ((i : Int) + 1) = (i : Int) + 1 := wrap64 (by omega)
    have q5 : ¬ (j : Int) < 0 := by omega
    have q6 : min j 64 = j := by omega
    have q7 : M.length + 1 ≤ most := by unfold most; omega
    have hfin := lenB_succ b.length i
    rw [hj] at hfin
    clear hblk
    simp (maxSteps := 4000000) [q4, e1, e2, e3, e4, q5, q6, q7, IntKind.bits]
    refine ⟨i + 1, by omega, by omega, ?_, by omega⟩
    rw [hfin, ← hM]
    simp [b8_wrap]
  have hi8' : i = 8 := by omega
  subst hi8'
  have c1 : ¬ ((8 : Nat) : Int) < 8 := by omega
  have hT : tailB b = M := by
    rw [← hM, ← hL, ← hD, ← hW6, ← hW, hc]; rfl
  have hTl := tailB_len b
  rw [hT] at hTl
  simp (maxSteps := 4000000)
  -- the last blocks
  obtain ⟨V, hV⟩ : ∃ V, M.length / 64 = V := ⟨_, rfl⟩
  refine Post_loop (I := fun p : Nat × Nat => ⟨[(3, .gp σ.length 0 (some (124, 64))), (4, .lp 4 0), (7, .sl (.ex 5 1) (M.map .u8)), (9, .int .i64 p.2)], [(4, (blocksV x M p.1).cs)], σ ++ [K]⟩)
    (Pr := fun p => p.2 = 64 * p.1 ∧ p.1 ≤ V) (μ := fun p => V - p.1) (a := (0, 0)) (by simp [blocksV]) (by simp) ?_
  rintro ⟨n2, m3⟩ ⟨hm3, hn2⟩
  simp only at hm3 hn2 ⊢
  obtain ⟨z, hz⟩ : ∃ z, blocksV x M n2 = z := ⟨_, rfl⟩
  obtain ⟨i1, i2, i3, i4⟩ := cs_facts z
  rw [hz]
  by_cases hc2 : m3 < M.length
  · have q1 : (m3 : Int) < M.length := by omega
    have q2 : m3 + 64 ≤ M.length := by omega
    have w1 : IntKind.i64.wrap ((m3 : Int) + 64) = ((m3 + 64 : Nat) : Int) := by rw [wrap64 (by omega)]; omega
    have hb := hblk z ((M.drop m3).take 64) (by simp; omega)
    obtain ⟨y, hy⟩ : ∃ y, blockV kConst z ((M.drop m3).take 64) = y := ⟨_, rfl⟩
    rw [hy] at hb
    obtain ⟨j1, j2, j3, j4⟩ := cs_facts y
    obtain ⟨m2, hm2⟩ : ∃ m2, m3 + 64 = m2 := ⟨_, rfl⟩
    have hsl : ((M.map AV.u8).take m2).drop m3 = (((M.drop m3).take 64).map AV.u8) := by
      rw [← hm2, List.drop_take, show m3 + 64 - m3 = 64 by omega, List.map_take, List.map_drop]
    have q3 : m3 ≤ m2 := by omega
    rw [hm2] at q2 w1
    have hfin : blocksV x M (n2 + 1) = y := by rw [blocksV, hz, ← hy, hm3]
    clear hblk
    simp (maxSteps := 4000000) [-List.map_take, -List.map_drop, hc2, q1, q2, q3, w1, hb, i1, i2, i3, i4, j1, j2, j3, j4, hKl, hsl]
    exact ⟨n2 + 1, m2, ⟨by omega, by omega⟩, by omega, rfl, by rw [hfin]⟩
  have hm3M : m3 = M.length := by omega
  have hn2V : n2 = V := by omega
  subst hm3M; subst hn2V
  have c2 : ¬ (M.length : Int) < M.length := by omega
  clear hblk
  simp (maxSteps := 4000000) [c2, i1, i2, i3, i4]
  -- what is handed back
  refine Post_loop (I := fun j : Nat => ⟨[(10, .sl (.ex 5 1) (((z.l.take j).flatMap out4).map .u8)), (72, .agg z.cs), (73, .int .i64 j)], [], σ ++ [K]⟩)
    (Pr := fun j => j ≤ 8) (μ := fun j => 8 - j) (a := 0) (by simp) (by omega) ?_
  intro j hj
  obtain ⟨R, hR⟩ : ∃ R, (z.l.take j).flatMap out4 = R := ⟨_, rfl⟩
  have hRl : R.length ≤ 32 := by
    rw [← hR]
    have : ∀ l : List Int, (l.flatMap out4).length = 4 * l.length := by
      intro l
      induction l with
      | nil => rfl
      | cons a r ih => rw [List.flatMap_cons, List.length_append, ih]; simp [out4]; omega
    rw [this]; simp [V8.l]; omega
  simp only [hR]
  by_cases hj8 : j < 8
  · have q1 : (j : Int) < 8 := by omega
    have q2 : j ≤ 7 := by omega
    have g := cs_get z j hj8
    obtain ⟨v, hv⟩ : ∃ v, z.l.getD j 0 = v := ⟨_, rfl⟩
    have hfin := out_succ z j hj8
    rw [hv] at g hfin
    have e4 : IntKind.i64.wrap ((j : Int) + 1) = (j : Int) + 1 := wrap64 (by omega)
    have q7 : R.length + 4 ≤ most := by unfold most; omega
    simp (maxSteps := 4000000) [-getElem?_pos, List.getElem?_cons_zero, q1, q2, hj8, g, e4, i1, q7, IntKind.bits]
    refine ⟨j + 1, by omega, by omega, ?_, by omega⟩
    rw [hfin, hR]
    simp [out4, b8_wrap]
  have hj8' : j = 8 := by omega
  subst hj8'
  have hfin : sha256 b = R := by
    rw [← hR]
    unfold sha256
    rw [hW, hx, hT, hV, hz]
    rfl
  rw [hfin]
  simp (maxSteps := 4000000) [Tryd.results76]

theorem sha256_len (b : List UInt8) : (sha256 b).length = 32 := rfl
end Go.Proofs.Tryd.Ai
end
section
/- ark.Hex. -/
namespace Go.Proofs.Tryd.Ai
open Go Go.AI Go.Proofs
set_option maxHeartbeats 1000000
set_option linter.unusedVariables false

def hexDigit (n : Nat) : UInt8 := [48, 49, 50, 51, 52, 53, 54, 55, 56, 57, 97, 98, 99, 100, 101, 102].getD n 0
def hexB (b : UInt8) : List UInt8 := [hexDigit (b.toNat / 16), hexDigit (b.toNat % 16)]
def hexL (l : List UInt8) : List UInt8 := l.flatMap hexB
theorem hexL_len (l : List UInt8) : (hexL l).length = 2 * l.length := by
  induction l with
  | nil => rfl
  | cons a r ih => simp only [hexL, List.flatMap_cons, List.length_append, List.length_cons] at ih ⊢; rw [ih]; simp [hexB]; omega
theorem hexL_succ (l : List UInt8) (i : Nat) (h : i < l.length) : hexL (l.take (i + 1)) = hexL (l.take i) ++ hexB l[i] := by
  rw [List.take_succ_eq_append_getElem h]; simp only [hexL, List.flatMap_append, List.flatMap_cons, List.flatMap_nil, List.append_nil]

theorem Hex_eq (o : Own) (l : List UInt8) (hl : l.length ≤ 2 ^ 30) (σ) : ev 45 [.sl o (l.map .u8)] σ = some (.str (hexL l), σ) := by
  have hw := fun (q : Option (List UInt8)) (c : UInt8) (h : (txt q).length + 1 ≤ most) => WriteByte_eq σ [] q h c
  have hs := fun (q : Option (List UInt8)) => String_eq σ [] q
  refine EV_post rfl Tryd.func45 rfl (by simp [Tryd.ntmps45]) (by kernel_rfl) (by kernel_rfl) ?_
  simp (maxSteps := 4000000) (disch := omega) [dT, dF, wrap64]
  refine Post_loop (I := fun p : Nat × Option (List UInt8) => ⟨[(3, .gp σ.length 0 (some (SB, 2))), (6, .sl o (l.map .u8)), (7, .int .i64 l.length), (8, .int .i64 p.1)], [], σ ++ [bc σ.length p.2]⟩)
    (Pr := fun p => p.1 ≤ l.length ∧ txt p.2 = hexL (l.take p.1)) (μ := fun p => l.length - p.1) (a := (0, none)) (by simp [bc, SB]) (by simp [hexL]) ?_
  rintro ⟨i, q⟩ ⟨hi, hq⟩
  simp only at hi hq ⊢
  have hql : (txt q).length ≤ 2 ^ 31 := by rw [hq, hexL_len]; simp; omega
  by_cases hc : i < l.length
  · have q1 : (i : Int) < l.length := by omega
    obtain ⟨x, hx⟩ : ∃ x, l[i] = x := ⟨_, rfl⟩
    have hx2 : l[i]? = some x := by rw [← hx]; exact List.getElem?_eq_getElem hc
    have hb : (x.toNat) < 256 := x.toNat_lt
    have e0 : IntKind.i64.wrap ((i : Int) + 1) = (i : Int) + 1 := wrap64 (by omega)
    have hd : ∀ n : Nat, n < 16 → ([48, 49, 50, 51, 52, 53, 54, 55, 56, 57, 97, 98, 99, 100, 101, 102] : List UInt8)[n]? = some (hexDigit n) := by decide
    obtain ⟨m1, hm1⟩ : ∃ m, x.toNat / 16 = m := ⟨_, rfl⟩
    obtain ⟨m2, hm2⟩ : ∃ m, x.toNat % 16 = m := ⟨_, rfl⟩
    have e1 : IntKind.u8.wrap ((x.toNat : Int) / 16) = (m1 : Int) := by rw [wrapU8 (by omega)]; omega
    have e2 : (x.toNat : Int).tmod 16 = (m2 : Int) := by rw [Int.tmod_eq_emod_of_nonneg (by omega)]; omega
    have d1 := hd m1 (by omega)
    have d2 := hd m2 (by omega)
    have w1 := hw q (hexDigit m1) (by unfold most; omega)
    have w2 := hw (some (txt q ++ [hexDigit m1])) (hexDigit m2) (by simp; unfold most; omega)
    simp only [AV.u8] at w1 w2
    have hfin := hexL_succ l i hc
    rw [hx] at hfin
    clear hd hw
    simp (maxSteps := 4000000) [-getElem?_pos, List.getElem?_cons_zero, q1, hc, hx2, e0, e1, e2, d1, d2, w1, w2]
    refine ⟨i + 1, some (txt (some (txt q ++ [hexDigit m1])) ++ [hexDigit m2]), ⟨by omega, ?_⟩, by omega, by omega, by simp⟩
    rw [hfin, ← hq]
    simp [hexB, hm1, hm2]
  · have hi' : i = l.length := by omega
    subst hi'
    have c1 : ¬ (l.length : Int) < l.length := by omega
    simp only [List.take_length] at hq
    simp (maxSteps := 4000000) [c1, hs, hq, Tryd.results45]
end Go.Proofs.Tryd.Ai
end
section
/- mewslaw7.first answers yes. -/
namespace Go.Proofs.Tryd.Ai
open Go Go.AI Go.Proofs
set_option maxHeartbeats 4000000
set_option linter.unusedVariables false

theorem Leaf_eq (o : Own) (l : List UInt8) (hl : l.length + 1 ≤ 2 ^ 30) (σ) : ev 46 [.sl o (l.map .u8)] σ = some (.sl (.ex 5 1) ((sha256 (0 :: l)).map .u8), σ) := by
  have h1 := fun σ => SHA256_eq .sh (0 :: l) (by simp; omega) σ
  have h2 : 1 + l.length ≤ most := by unfold most; omega
  refine EV_post rfl Tryd.func46 rfl (by simp [Tryd.ntmps46]) (by kernel_rfl) (by kernel_rfl) ?_
  simp only [List.map_cons, AV.u8, show ((UInt8.toNat 0 : Nat) : Int) = 0 from rfl] at h1
  simp (maxSteps := 4000000) [List.getElem?_cons_zero, List.getElem?_cons_succ, h1, h2, Tryd.results46]
theorem within_54 (σ) : ev 48 [.int .i64 5, .int .i64 0, .int .i64 4] σ = some (.bool true, σ) := by
  refine EV_post rfl Tryd.func48 rfl (by simp [Tryd.ntmps48]) (by kernel_rfl) (by kernel_rfl) ?_
  have w : (Int.fdiv 5 (2 ^ 0)) = 5 := by decide
  simp (maxSteps := 4000000) [List.getElem?_cons_zero, List.getElem?_cons_succ, Tryd.results48, w, IntKind.bits, IntKind.wrap, IntKind.signed]
theorem wide_51 (σ) : ev 80 [.int .i64 2, .int .i64 5, .int .i64 0, .int .i64 1] σ = some (.agg [.int .i64 2, .int .i64 0, .int .i64 1, .int .i64 1], σ) := by
  refine EV_post rfl Tryd.func80 rfl (by simp [Tryd.ntmps80]) (by kernel_rfl) (by kernel_rfl) ?_
  simp (maxSteps := 4000000) [List.getElem?_cons_zero, List.getElem?_cons_succ, Tryd.results80, IntKind.bits, IntKind.wrap, IntKind.signed]
theorem TileOf_54 (σ) : ev 47 [.int .i64 2, .int .i64 5, .int .i64 0, .int .i64 4] σ = some (.tup [.agg [.int .i64 2, .int .i64 0, .int .i64 1, .int .i64 1], .int .i64 0], σ) := by
  refine EV_post rfl Tryd.func47 rfl (by simp [Tryd.ntmps47]) (by kernel_rfl) (by kernel_rfl) ?_
  simp (maxSteps := 4000000) [List.getElem?_cons_zero, List.getElem?_cons_succ, within_54, wide_51, Tryd.results47, IntKind.bits, IntKind.wrap, IntKind.signed]
end Go.Proofs.Tryd.Ai
end
section
/- mewslaw7.first answers yes. -/
namespace Go.Proofs.Tryd.Ai
open Go Go.AI Go.Proofs
set_option maxRecDepth 2000
set_option maxHeartbeats 400000
set_option linter.unusedVariables false

theorem fits_51 (σ) : ev 100 [.agg [.int .i64 2, .int .i64 0, .int .i64 1, .int .i64 1]] σ = some (.bool true, σ) := by
  refine EV_post rfl Tryd.func100 rfl (by simp [Tryd.ntmps100]) (by kernel_rfl) (by kernel_rfl) ?_
  refine Post_seq (Post_reg (st1 := ⟨[(0, .agg [.int .i64 2, .int .i64 0, .int .i64 1, .int .i64 1]), (1, .lp 1 0), (2, .bool false)], [(1, [.int .i64 2, .int .i64 0, .int .i64 1, .int .i64 1])], σ⟩) (by kernel_rfl) ?_)
  refine Post_seq (Post_draw [] ⟨[(0, .agg [.int .i64 2, .int .i64 0, .int .i64 1, .int .i64 1]), (1, .lp 1 0), (2, .bool false)], [(1, [.int .i64 2, .int .i64 0, .int .i64 1, .int .i64 1])], σ⟩ ⟨[(0, .agg [.int .i64 2, .int .i64 0, .int .i64 1, .int .i64 1]), (1, .lp 1 0), (2, .bool true)], [(1, [.int .i64 2, .int .i64 0, .int .i64 1, .int .i64 1])], σ⟩ rfl (by kernel_rfl) ?_ ?_)
  · simp [IntKind.bits, wrap64]
  · simp [Tryd.results100]
theorem in_51 (σ) : ev 81 [.agg [.int .i64 2, .int .i64 0, .int .i64 1, .int .i64 1], .int .i64 1048576] σ = some (.bool true, σ) := by
  have hw : ∀ σ, ev 48 [.int .i64 1048576, .int .i64 0, .int .i64 4] σ = some (.bool true, σ) := by
    intro σ
    refine EV_post rfl Tryd.func48 rfl (by simp [Tryd.ntmps48]) (by kernel_rfl) (by kernel_rfl) ?_
    have w : (Int.fdiv 1048576 (2 ^ 0)) = 1048576 := by decide
    simp (maxSteps := 4000000) [List.getElem?_cons_zero, List.getElem?_cons_succ, Tryd.results48, w, IntKind.bits, wrap64]
  refine EV_post rfl Tryd.func81 rfl (by simp [Tryd.ntmps81]) (by kernel_rfl) (by kernel_rfl) ?_
  refine Post_seq (Post_reg (st1 := ⟨[(0, .agg [.int .i64 2, .int .i64 0, .int .i64 1, .int .i64 1]), (1, .int .i64 1048576), (2, .lp 2 0), (4, .bool false)], [(2, [.int .i64 2, .int .i64 0, .int .i64 1, .int .i64 1])], σ⟩) (by kernel_rfl) ?_)
  refine Post_seq (Post_draw [] ⟨[(0, .agg [.int .i64 2, .int .i64 0, .int .i64 1, .int .i64 1]), (1, .int .i64 1048576), (2, .lp 2 0), (4, .bool false)], [(2, [.int .i64 2, .int .i64 0, .int .i64 1, .int .i64 1])], σ⟩ ⟨[(0, .agg [.int .i64 2, .int .i64 0, .int .i64 1, .int .i64 1]), (1, .int .i64 1048576), (2, .lp 2 0), (4, .bool true)], [(2, [.int .i64 2, .int .i64 0, .int .i64 1, .int .i64 1])], σ⟩ rfl (by kernel_rfl) ?_ ?_)
  · simp [IntKind.bits, wrap64, fits_51, hw]
  · simp [Tryd.results81]
theorem three_1 (σ) : ev 82 [.int .i64 1] σ = some (.str [48, 48, 49], σ) := by
  have h1 : ∀ σ, ev 83 [.int .i64 1] σ = some (.str [49], σ) := fun σ => Itoa_dig 1 (by omega) σ
  have h2 := Repeat_zeros
  refine EV_post rfl Tryd.func82 rfl (by simp [Tryd.ntmps82]) (by kernel_rfl) (by kernel_rfl) ?_
  simp (maxSteps := 4000000) [List.getElem?_cons_zero, List.getElem?_cons_succ, h1, h2, Tryd.results82, wrap64, most]
end Go.Proofs.Tryd.Ai
end
section
/- mewslaw7.first answers yes. -/
namespace Go.Proofs.Tryd.Ai
open Go Go.AI Go.Proofs
set_option maxRecDepth 2000
set_option maxHeartbeats 400000
set_option linter.unusedVariables false

theorem Path_51 (σ) : ev 42 [.agg [.int .i64 2, .int .i64 0, .int .i64 1, .int .i64 1]] σ = some (.tup [.str [116, 105, 108, 101, 47, 50, 47, 48, 47, 48, 48, 49, 46, 112, 47, 49], .int .i64 0], σ) := by
  have i0 : ∀ σ, ev 83 [.int .i64 0] σ = some (.str [48], σ) := fun σ => Itoa_dig 0 (by omega) σ
  have i1 : ∀ σ, ev 83 [.int .i64 1] σ = some (.str [49], σ) := fun σ => Itoa_dig 1 (by omega) σ
  have i2 : ∀ σ, ev 83 [.int .i64 2] σ = some (.str [50], σ) := fun σ => Itoa_dig 2 (by omega) σ
  refine EV_post rfl Tryd.func42 rfl (by simp [Tryd.ntmps42]) (by kernel_rfl) (by kernel_rfl) ?_
  simp (maxSteps := 4000000) [List.getElem?_cons_zero, List.getElem?_cons_succ, in_51, three_1, wrap64]
  refine Post_loop (I := fun _ : Unit => ⟨[(1, .lp 1 0), (4, .str [48, 48, 49]), (5, .int .i64 0)], [(1, [.int .i64 2, .int .i64 0, .int .i64 1, .int .i64 1])], σ⟩) (Pr := fun _ => True) (μ := fun _ => 0) (a := ()) (by simp) trivial ?_
  intro _ _
  simp (maxSteps := 4000000) [List.getElem?_cons_zero, List.getElem?_cons_succ, i0, i1, i2, wrap64, IntKind.bits, most, Tryd.results42]
  done
end Go.Proofs.Tryd.Ai
end
section
/- TlogPlaces, but for what 'first' answers. -/
namespace Go.Proofs.Tryd.Ai
open Go Go.AI Go.Proofs
set_option maxHeartbeats 1000000

theorem mod300 (n : Int) : ∃ m : Nat, m < 300 ∧ (IntKind.i64.wrap (n.tmod 300 + 300)).tmod 300 = (m : Int) := by
  have h1 := Int.tmod_lt_of_pos n (b := 300) (by omega)
  have h2 : -300 < n.tmod 300 := by
    have := Int.tmod_lt_of_pos (-n) (b := 300) (by omega)
    rw [Int.neg_tmod] at this; omega
  rw [wrap64 (by omega), Int.tmod_eq_emod_of_nonneg (by omega)]
  exact ⟨((n.tmod 300 + 300) % 300).toNat, by omega, by omega⟩

/-- the trees that end with a record -/
theorem ends (i l : Nat) (h : (i + 1) % 2 ^ l = 0) : ((i + 1) / 2 ^ l - 1 + 1) * 2 ^ l = i + 1 := by
  have h1 : (i + 1) / 2 ^ l * 2 ^ l = i + 1 := Nat.div_mul_cancel (Nat.dvd_of_mod_eq_zero h)
  have h2 : 0 < (i + 1) / 2 ^ l := by
    rcases Nat.eq_zero_or_pos ((i + 1) / 2 ^ l) with q | q
    · rw [q] at h1; omega
    · exact q
  rw [Nat.sub_add_cancel h2, h1]
theorem ends_lt (i l : Nat) (hi : i < 300) (h : (i + 1) % 2 ^ l = 0) : l ≤ 8 := by
  have h1 : 2 ^ l ≤ i + 1 := Nat.le_of_dvd (by omega) (Nat.dvd_of_mod_eq_zero h)
  rcases Nat.lt_or_ge 8 l with q | q
  · have := Nat.pow_le_pow_right (n := 2) (by omega) (show 9 ≤ l from q)
    omega
  · exact q

theorem places_core (σ j : List (List AV)) (hf : ev 10 [] σ = some (.bool true, j)) (n : Int) :
    ev 3 [.int .i64 n] σ = some (.bool true, j) := by
  refine EV_post rfl Tryd.func3 rfl (by simp [Tryd.ntmps3]) (by kernel_rfl) (by kernel_rfl) ?_
  obtain ⟨m, hm, hmod⟩ := mod300 n
  simp (maxSteps := 4000000) (disch := omega) [dT, dF, wrap64, hf, hmod]
  refine Post_loop (I := fun i : Nat => ⟨[(0, .int .i64 m), (3, .bool true), (4, .int .i64 (storedN i)), (5, .int .i64 i)], [], j⟩) (Pr := fun i => i ≤ m) (μ := fun i => m - i) (a := 0) (by simp [storedN_zero]) (by omega) ?_
  intro i hi
  have hsi := storedN_le i
  by_cases hc : i < m
  · have c1 : (i : Int) < m := by omega
    simp (maxSteps := 4000000) (disch := omega) [dT, dF, wrap64, c1]
    refine Post_loop (I := fun l : Nat => ⟨[(0, .int .i64 m), (3, .bool true), (4, .int .i64 ((storedN i + l : Nat) : Int)), (5, .int .i64 i), (6, .int .i64 ((2 ^ l : Nat) : Int)), (7, .int .i64 l)], [], j⟩)
      (Pr := fun l => l ≤ 9 ∧ (l = 0 ∨ (i + 1) % 2 ^ (l - 1) = 0)) (μ := fun l => 9 - l) (a := 0) (by simp) (by simp) ?_
    rintro l ⟨hl9, hl⟩
    obtain ⟨p, hp⟩ : ∃ p, 2 ^ l = p := ⟨_, rfl⟩
    obtain ⟨a, ha⟩ : ∃ a, storedN i + l = a := ⟨_, rfl⟩
    have hp0 : 1 ≤ p := by rw [← hp]; exact Nat.two_pow_pos l
    have hp1 : p ≤ 512 := by rw [← hp]; exact Nat.pow_le_pow_right (n := 2) (by omega) (show l ≤ 9 from hl9)
    have m1 : ((i : Int) + 1).tmod p = (((i + 1) % p : Nat) : Int) := by rw [Int.tmod_eq_emod_of_nonneg (by omega)]; simp
    have m2 : ((i : Int) + 1).tdiv p = (((i + 1) / p : Nat) : Int) := by rw [Int.tdiv_eq_ediv_of_nonneg (by omega)]; simp
    have w1 : IntKind.i64.wrap ((i : Int) + 1) = (i : Int) + 1 := wrap64 (by omega)
    have w2 : IntKind.i64.wrap ((a : Int) + 1) = (a : Int) + 1 := wrap64 (by omega)
    have w3 : IntKind.i64.wrap ((l : Int) + 1) = (l : Int) + 1 := wrap64 (by omega)
    have w4 : IntKind.i64.wrap (2 * (p : Int)) = 2 * (p : Int) := wrap64 (by omega)
    have hp2 : ¬ (p : Int) = 0 := by omega
    have hp3 : ¬ p = 0 := by omega
    have hN := Num_eq 0 j
    simp only [hp, ha]
    by_cases hd : l = 0 ∨ (i + 1) % 2 ^ l = 0
    · have hd0 : (i + 1) % 2 ^ l = 0 := by
        rcases hd with rfl | hd
        · simp [Nat.mod_one]
        · exact hd
      have hl8 := ends_lt i l (by omega) hd0
      have hk := ends i l hd0
      obtain ⟨k, hk1⟩ : ∃ k, k = (i + 1) / 2 ^ l - 1 := ⟨_, rfl⟩
      rw [← hk1] at hk
      have hq : (i + 1) / p = k + 1 := by rw [← hk, hp]; exact Nat.mul_div_cancel _ (by omega)
      have hk3 : k ≤ 300 := by
        have : k + 1 ≤ (k + 1) * 2 ^ l := Nat.le_mul_of_pos_right _ (Nat.two_pow_pos l)
        omega
      have hI := Index_yes l k (by omega) (by omega) j
      have hix : indexN l k = a := by unfold indexN; rw [hk]; exact ha
      rw [hix] at hI
      have hgap := stored_gap l k (by omega)
      rw [hk] at hgap
      have hS := Split_yes a i l (k + 1) ha.symm (by simp at hgap; omega) (by omega) (by rw [hp]; exact hq) j
      have hS2 : ((k + 1 : Nat) : Int) - 1 = (k : Int) := by omega
      rw [hS2] at hS
      have m3 : (i + 1) % p = 0 := by rw [← hp]; exact hd0
      have w5 : IntKind.i64.wrap (k : Int) = k := wrap64 (by omega)
      have w6 : IntKind.i64.wrap ((k : Int) + 1) = (k : Int) + 1 := wrap64 (by omega)
      have hpI : (2 : Int) ^ l = (p : Int) := by rw [← hp]; simp
      clear hgap hk hk1 hd hix hS2 hsi hl hf hmod
      by_cases hl0 : l = 0
      · subst hl0
        have hI' : ev 11 [.int .i64 0, .int .i64 k] j = some (.tup [.int .i64 a, .int .i64 0], j) := hI
        have hS' : ev 12 [.int .i64 a] j = some (.tup [.int .i64 0, .int .i64 k, .int .i64 0], j) := hS
        have w7 : IntKind.i64.wrap 1 = 1 := wrap64 (by omega)
        simp (maxSteps := 4000000) [w1, w2, w4, w5, w6, w7, hp2, hp3, m1, m2, m3, hq, hN, hI', hS']
        exact ⟨1, ⟨by omega, .inr hd0⟩, by omega, by omega, by rw [Int.pow_succ, hpI]; omega, by omega⟩
      · have hl0' : ¬ (l : Int) = 0 := by omega
        simp (maxSteps := 4000000) [hl0, w1, w2, w3, w4, w5, w6, hp2, hp3, m1, m2, m3, hq, hI, hS, hN]
        exact ⟨l + 1, ⟨by omega, .inr hd0⟩, by omega, by omega, by rw [Int.pow_succ, hpI]; omega, by omega⟩
    · have hl0 : l ≠ 0 := fun e => hd (.inl e)
      have hd2 : ¬ (i + 1) % 2 ^ l = 0 := fun e => hd (.inr e)
      have hl2 : (i + 1) % 2 ^ (l - 1) = 0 := hl.resolve_left hl0
      obtain ⟨v, rfl⟩ : ∃ v, l = v + 1 := ⟨l - 1, by omega⟩
      simp only [Nat.add_sub_cancel] at hl2
      have hk := ends i v hl2
      obtain ⟨k, hk1⟩ : ∃ k, k = (i + 1) / 2 ^ v - 1 := ⟨_, rfl⟩
      rw [← hk1] at hk
      have hke : k % 2 = 0 := by
        rcases Nat.mod_two_eq_zero_or_one k with q | q
        · exact q
        · exfalso
          apply hd2
          obtain ⟨z, hz⟩ : ∃ z, k + 1 = 2 * z := ⟨(k + 1) / 2, by omega⟩
          rw [← hk, hz, Nat.pow_succ, Nat.mul_comm 2 z, Nat.mul_assoc, Nat.mul_comm 2 (2 ^ v)]
          exact Nat.mul_mod_left _ _
      have hgap := stored_gap_eq v k (by omega) hke
      rw [hk] at hgap
      have hfin : storedN (i + 1) = a := by simp at hgap; omega
      have hC := Count_yes (i + 1) (by omega) j
      rw [hfin] at hC
      have hC' : ev 14 [.int .i64 ((i : Int) + 1)] j = some (.tup [.int .i64 a, .int .i64 0], j) := hC
      have m3 : ¬ (i + 1) % p = 0 := by rw [← hp]; exact hd2
      have m4 : ¬ (v : Int) + 1 = 0 := by omega
      have m5 : ¬ ((i : Int) + 1) % (p : Int) = 0 := by rw [show ((i : Int) + 1) % (p : Int) = (((i + 1) % p : Nat) : Int) from by simp]; omega
      clear hgap hk hk1 hd hl hf hmod hsi hC
      simp (maxSteps := 4000000) [w1, w2, w3, w4, hp2, hp3, m1, m2, m3, m4, m5, hC', hN]
      exact ⟨i + 1, by omega, by omega, by rw [hfin], by omega⟩
  · have c1 : ¬ (i : Int) < m := by omega
    simp (maxSteps := 4000000) [c1, Tryd.results3]
end Go.Proofs.Tryd.Ai
end
section
/- mewslaw7.first: yes. -/
namespace Go.Proofs.Tryd.Ai
open Go Go.AI Go.Proofs
set_option maxRecDepth 2000
set_option maxHeartbeats 400000
set_option linter.unusedVariables false

theorem first_eq (σ) : ev 10 [] σ = some (.bool true, σ) := by
  have hL : ∀ σ, ev 46 [.sl .sh []] σ = some (.sl (.ex 5 1) ((sha256 [0]).map .u8), σ) := fun σ => Leaf_eq .sh [] (by simp) σ
  have hX : ∀ σ, ev 45 [.sl .sh ((sha256 [0]).map .u8)] σ = some (.str (hexL (sha256 [0])), σ) := fun σ => Hex_eq .sh (sha256 [0]) (by decide +kernel) σ
  have hh : hexL (sha256 [0]) = [54, 101, 51, 52, 48, 98, 57, 99, 102, 102, 98, 51, 55, 97, 57, 56, 57, 99, 97, 53, 52, 52, 101, 54, 98, 98, 55, 56, 48, 97, 50, 99, 55, 56, 57, 48, 49, 100, 51, 102, 98, 51, 51, 55, 51, 56, 55, 54, 56, 53, 49, 49, 97, 51, 48, 54, 49, 55, 97, 102, 97, 48, 49, 100] := by decide +kernel
  dsimp only at hh
  rw [hh] at hX
  obtain ⟨D, hD⟩ : ∃ D, sha256 [0] = D := ⟨_, rfl⟩
  rw [hD] at hL hX
  clear hh hD
  have hI : ∀ σ, ev 11 [.int .i64 2, .int .i64 0] σ = some (.tup [.int .i64 6, .int .i64 0], σ) := fun σ => Index_yes 2 0 (by omega) (by omega) σ
  have hS : ∀ σ, ev 12 [.int .i64 5] σ = some (.tup [.int .i64 1, .int .i64 1, .int .i64 0], σ) := fun σ => Split_yes 5 3 1 2 (by decide) (by decide) (by omega) (by decide) σ
  have hN : ∀ σ, ev 13 [.int .i64 0] σ = some (.int .i64 0, σ) := fun σ => Num_eq 0 σ
  refine EV_post rfl Tryd.func10 rfl (by simp [Tryd.ntmps10]) (by kernel_rfl) (by kernel_rfl) ?_
  simp (maxSteps := 4000000) [List.getElem?_cons_zero, List.getElem?_cons_succ, hL, hX, hI, hS, hN, TileOf_54, Path_51, Tryd.results10]
theorem places_eq (n : Int) : ev 3 [.int .i64 n] [] = some (.bool true, []) := places_core [] [] (first_eq []) n
end Go.Proofs.Tryd.Ai
end
section
/- The document's SHA-256: words turned, constants. -/
namespace Go.Proofs.Tryd.Ai
open Go Go.AI Go.Proofs
set_option maxHeartbeats 1000000
set_option linter.unusedVariables false

theorem wor_comm (a b : Int) : wor a b = wor b a := by
  unfold wor; simp only [bits, BitVec.or_comm]
theorem wadd_comm (a b : Int) : wadd a b = wadd b a := by unfold wadd; rw [Int.add_comm]
theorem turn_eq (x : Int) (n : Nat) (hn : n ≤ 32) (σ) : ev 93 [.int .u32 x, .int .i64 n] σ = some (.int .u32 (rotr x n), σ) := by
  refine EV_post rfl Tryd.func93 rfl (by simp [Tryd.ntmps93]) (by kernel_rfl) (by kernel_rfl) ?_
  have h1 : ¬ (n : Int) < 0 := by omega
  have h2 : IntKind.i64.wrap (32 - (n : Int)) = ((32 - n : Nat) : Int) := by rw [wrap64 (by omega)]; omega
  have h4 : min (32 - n) 32 = 32 - n := by omega
  have h5 : min n 32 = n := by omega
  obtain ⟨k, hk⟩ : ∃ k, 32 - n = k := ⟨_, rfl⟩
  have hr : rotr x n = bits .or .u32 (x.fdiv (2 ^ n)) (IntKind.u32.wrap (x * 2 ^ k)) := by unfold rotr; rw [wor_comm, hk]; rfl
  rw [hk] at h2 h4
  clear hn hk
  simp (maxSteps := 4000000) [List.getElem?_cons_zero, List.getElem?_cons_succ, h1, h2, h4, h5, IntKind.bits, Tryd.results93, hr]
theorem rconstants_eq (σ) : ev 92 [] σ = some (.sl (.ex 120 1) (kConst.map (.int .u32)), σ) := by
  refine EV_post rfl Tryd.func92 rfl (by simp [Tryd.ntmps92]) (by kernel_rfl) (by kernel_rfl) ?_
  refine Post_seq (Post_reg (st1 := ⟨[(0, .sl (.ex 120 1) [])], [], σ⟩) (by kernel_rfl) ?_)
  refine Post_seq (Post_reg (st1 := ⟨[(0, .sl (.ex 120 1) (kConst.map (.int .u32))), (1, .sl .sh (kConst.map (.int .u32)))], [], σ⟩) (by kernel_rfl) ?_)
  obtain ⟨R, hR⟩ : ∃ R, kConst.map (AV.int .u32) = R := ⟨_, rfl⟩
  rw [hR]
  simp (maxSteps := 4000000) [List.getElem?_cons_zero, List.getElem?_cons_succ, Tryd.results92]
theorem Bytes_eq (o : Own) (l : List UInt8) (hl : l.length ≤ 2 ^ 39) (σ) : ev 57 [.sl o (l.map .u8)] σ = some (.sl (.ex 5 1) (l.map .u8), σ) := by
  refine EV_post rfl Tryd.func57 rfl (by simp [Tryd.ntmps57]) (by kernel_rfl) (by kernel_rfl) ?_
  have h1 : l.length ≤ most := by unfold most; omega
  simp (maxSteps := 4000000) [List.getElem?_cons_zero, List.getElem?_cons_succ, h1, Tryd.results57]
/-- blocks, one behind the other -/
theorem blocksV_app (x y : List UInt8) (n : Nat) (hx : x.length = 64 * n) (s : V8) : (∀ k, k ≤ n → blocksV s (x ++ y) k = blocksV s x k) ∧ ∀ m, blocksV s (x ++ y) (n + m) = blocksV (blocksV s x n) y m := by
  have h1 : ∀ k, k ≤ n → blocksV s (x ++ y) k = blocksV s x k := by
    intro k
    induction k with
    | zero => intro _; rfl
    | succ k ih =>
      intro hk
      rw [blocksV, blocksV, ih (by omega)]
      congr 1
      rw [List.drop_append_of_le_length (by omega), List.take_append_of_le_length (by simp; omega)]
  refine ⟨h1, fun m => ?_⟩
  induction m with
  | zero => exact h1 n (Nat.le_refl _)
  | succ m ih =>
    rw [← Nat.add_assoc, blocksV, blocksV, ih]
    congr 1
    rw [List.drop_append, List.drop_of_length_le (by omega), List.nil_append, hx, show 64 * (n + m) - 64 * n = 64 * m by omega]
/-- a text, laid out to whole blocks -/
def laidB (b : List UInt8) : List UInt8 := b ++ [128] ++ List.replicate (padN b.length) 0 ++ lenB b.length 8
theorem blocksV_take (s : V8) (x : List UInt8) (n : Nat) : ∀ k, k ≤ n → blocksV s (x.take (64 * n)) k = blocksV s x k := by
  intro k
  induction k with
  | zero => intro _; rfl
  | succ k ih =>
    intro hk
    rw [blocksV, blocksV, ih (by omega)]
    congr 1
    rw [List.drop_take, List.take_take]
    congr 1
    omega
theorem sha256_laid (b : List UInt8) : sha256 b = (blocksV vInit (laidB b) ((laidB b).length / 64)).l.flatMap out4 := by
  have hs : laidB b = b.take (b.length / 64 * 64) ++ tailB b := by
    unfold laidB tailB
    simp only [← List.append_assoc, List.take_append_drop]
  have hl : (b.take (b.length / 64 * 64)).length = 64 * (b.length / 64) := by simp; omega
  have h1 := (blocksV_app _ (tailB b) (b.length / 64) hl vInit).2 ((tailB b).length / 64)
  have h2 : (laidB b).length / 64 = b.length / 64 + (tailB b).length / 64 := by rw [hs, List.length_append, hl]; omega
  have h3 := blocksV_take vInit b (b.length / 64) (b.length / 64) (Nat.le_refl _)
  rw [Nat.mul_comm] at h3
  rw [h2, hs, h1, h3]
  rfl
theorem laidB_len (b : List UInt8) : (laidB b).length % 64 = 0 ∧ (laidB b).length ≤ b.length + 80 := by
  have h1 : (laidB b).length = b.length + 1 + padN b.length + 8 := by simp [laidB, lenB]; omega
  rw [h1]; unfold padN; omega
end Go.Proofs.Tryd.Ai
end
section
/- The document's SHA-256, walked. -/
namespace Go.Proofs.Tryd.Ai
open Go Go.AI Go.Proofs
set_option maxHeartbeats 4000000
set_option linter.unusedVariables false

def wc (B : List UInt8) (l : List Int) (n : Nat) : List AV := (sched B n).map (.int .u32) ++ (l.drop n).map (.int .u32)
theorem wc_len (B : List UInt8) (l : List Int) (n : Nat) (h : n ≤ 64) (hl : l.length = 64) : (wc B l n).length = 64 := by simp [wc, sched_len]; omega
theorem wc_get (B : List UInt8) (l : List Int) (n j : Nat) (h : j < n) : (wc B l n)[j]? = some (.int .u32 ((sched B n).getD j 0)) := by
  have hj : j < (sched B n).length := by rw [sched_len]; exact h
  unfold wc
  rw [List.getElem?_append_left (by simpa using hj), List.getElem?_map, List.getElem?_eq_getElem hj]
  simp [List.getD, hj]
theorem wc_set (B : List UInt8) (l : List Int) (n : Nat) (v : Int) (h : n < 64) (hl : l.length = 64) (hv : v = if n < 16 then wordAt B n else nextW (sched B n) n) : (wc B l n).take n ++ .int .u32 v :: (wc B l n).drop (n + 1) = wc B l (n + 1) := by
  unfold wc
  rw [List.take_append_of_le_length (by simp [sched_len]), List.take_of_length_le (by simp [sched_len])]
  rw [List.drop_append, List.drop_eq_nil_of_le (by simp [sched_len])]
  simp only [List.length_map, sched_len, sched, hv]
  rw [show n + 1 - n = 1 by omega, ← List.map_drop, List.drop_drop]
  simp
theorem addV_comm (x s : V8) : addV x s = addV s x := by unfold addV; simp only [wadd_comm]
theorem turns (σ : List (List AV)) (x : Int) : ev 93 [.int .u32 x, .int .i64 6] σ = some (.int .u32 (rotr x 6), σ) ∧ ev 93 [.int .u32 x, .int .i64 11] σ = some (.int .u32 (rotr x 11), σ) ∧
    ev 93 [.int .u32 x, .int .i64 25] σ = some (.int .u32 (rotr x 25), σ) ∧ ev 93 [.int .u32 x, .int .i64 2] σ = some (.int .u32 (rotr x 2), σ) ∧
    ev 93 [.int .u32 x, .int .i64 13] σ = some (.int .u32 (rotr x 13), σ) ∧ ev 93 [.int .u32 x, .int .i64 22] σ = some (.int .u32 (rotr x 22), σ) :=
  ⟨turn_eq x 6 (by omega) σ, turn_eq x 11 (by omega) σ, turn_eq x 25 (by omega) σ, turn_eq x 2 (by omega) σ, turn_eq x 13 (by omega) σ, turn_eq x 22 (by omega) σ⟩
theorem turns4 (σ : List (List AV)) (x : Int) : ev 93 [.int .u32 x, .int .i64 7] σ = some (.int .u32 (rotr x 7), σ) ∧ ev 93 [.int .u32 x, .int .i64 18] σ = some (.int .u32 (rotr x 18), σ) ∧
    ev 93 [.int .u32 x, .int .i64 17] σ = some (.int .u32 (rotr x 17), σ) ∧ ev 93 [.int .u32 x, .int .i64 19] σ = some (.int .u32 (rotr x 19), σ) :=
  ⟨turn_eq x 7 (by omega) σ, turn_eq x 18 (by omega) σ, turn_eq x 17 (by omega) σ, turn_eq x 19 (by omega) σ⟩

theorem rSHA256_eq (o : Own) (b : List UInt8) (hl : b.length ≤ 1073741824) (σ) : ev 56 [.sl o (b.map .u8)] σ = some (.sl (.ex 5 1) ((sha256 b).map .u8), σ) := by
  have hK := rconstants_eq σ
  have hB := Bytes_eq .sh b (by omega) (σ ++ [vInit.cs])
  have hcs : vInit.cs = [.int .u32 1779033703, .int .u32 3144134277, .int .u32 1013904242, .int .u32 2773480762, .int .u32 1359893119, .int .u32 2600822924, .int .u32 528734635, .int .u32 1541459225] := rfl
  rw [hcs] at hB
  obtain ⟨K, hKK⟩ : ∃ K, kConst.map (AV.int .u32) = K := ⟨_, rfl⟩
  rw [hKK] at hK
  have q0 : b.length + 1 ≤ most := by unfold most; omega
  refine EV_post rfl Tryd.func56 rfl (by simp [Tryd.ntmps56]) (by kernel_rfl) (by kernel_rfl) ?_
  simp (maxSteps := 4000000) [List.getElem?_cons_zero, List.getElem?_cons_succ, hK, hB, q0]
  -- zeros
  refine Post_loop (I := fun k : Nat => ⟨[(0, .sl o (b.map .u8)), (3, .sl (.ex 120 1) K), (4, .ms 120 1 σ.length 0 8), (5, .sl (.ex 5 1) ((b ++ [128] ++ List.replicate k 0).map .u8))], [], σ ++ [vInit.cs]⟩)
    (Pr := fun k => k ≤ padN b.length) (μ := fun k => padN b.length - k) (a := 0) (by simp [hcs]) (by omega) ?_
  intro k hk
  have hp64 : padN b.length < 64 := Nat.mod_lt _ (by omega)
  have hpe := padN_eq b.length k hk
  obtain ⟨L, hL⟩ : ∃ L, b ++ [128] ++ List.replicate k 0 = L := ⟨_, rfl⟩
  have hLl : L.length = b.length + 1 + k := by rw [← hL]; simp; omega
  simp only [hL]
  by_cases hc : k = padN b.length
  rotate_left
  · have c1 : ¬ ((L.length : Int).tmod 64 = 56) := by rw [Int.tmod_eq_emod_of_nonneg (by omega), hLl]; omega
    have q4 : L.length + 1 ≤ most := by unfold most; omega
    simp (maxSteps := 4000000) [List.getElem?_cons_zero, List.getElem?_cons_succ, c1, q4]
    refine ⟨k + 1, by omega, by omega, ?_⟩
    rw [← hL, List.replicate_succ']; simp
  have c1 : ((L.length : Int).tmod 64 = 56) := by rw [Int.tmod_eq_emod_of_nonneg (by omega), hLl]; omega
  have u1 : IntKind.u64.wrap (b.length : Int) = b.length := wrapU64 (by omega)
  have u2 : IntKind.u64.wrap ((b.length : Int) * 8) = ((8 * b.length : Nat) : Int) := by rw [wrapU64 (by omega)]; omega
  obtain ⟨n8, hn8⟩ : ∃ n8, 8 * b.length = n8 := ⟨_, rfl⟩
  rw [hn8] at u2
  simp (maxSteps := 4000000) [List.getElem?_cons_zero, List.getElem?_cons_succ, c1, u1, u2]
  clear c1
  -- the length
  refine Post_loop (I := fun i : Nat => ⟨[(3, .sl (.ex 120 1) K), (4, .ms 120 1 σ.length 0 8), (5, .sl (.ex 5 1) ((L ++ lenB b.length i).map .u8)), (6, .int .u64 n8), (7, .int .i64 (7 - (i : Int)))], [], σ ++ [vInit.cs]⟩)
    (Pr := fun i => i ≤ 8) (μ := fun i => 8 - i) (a := 0) (by simp [lenB]) (by omega) ?_
  intro i hi
  obtain ⟨M, hM⟩ : ∃ M, L ++ lenB b.length i = M := ⟨_, rfl⟩
  have hMl : M.length = L.length + i := by rw [← hM]; simp [lenB]
  simp only [hM]
  by_cases hi8 : i < 8
  · obtain ⟨t, ht⟩ : ∃ t : Int, 7 - (i : Int) = t := ⟨_, rfl⟩
    have q4 : 0 ≤ t := by omega
    obtain ⟨j, hj⟩ : ∃ j, 56 - 8 * i = j := ⟨_, rfl⟩
    have e1 : IntKind.i64.wrap (8 * t) = (j : Int) := by rw [wrap64 (by omega)]; omega
    have e4 : IntKind.i64.wrap (t - 1) = t - 1 := wrap64 (by omega)
    have q5 : ¬ (j : Int) < 0 := by omega
    have q6 : min j 64 = j := by omega
    have q7 : M.length + 1 ≤ most := by unfold most; omega
    have hfin := lenB_succ b.length i
    rw [hj, hn8] at hfin
    simp only [ht]
    simp (maxSteps := 4000000) [List.getElem?_cons_zero, List.getElem?_cons_succ, q4, e1, e4, q5, q6, q7, IntKind.bits]
    refine ⟨i + 1, by omega, by omega, ?_, by omega⟩
    rw [hfin, ← hM]
    simp [b8_wrap]
  have hi8' : i = 8 := by omega
  subst hi8'
  have hT : laidB b = M := by rw [← hM, ← hL, hc]; rfl
  have hTl := laidB_len b
  rw [hT] at hTl
  have hv64 : (64 : Nat) ≤ most := by unfold most; omega
  simp (maxSteps := 4000000) [List.getElem?_cons_zero, List.getElem?_cons_succ, hv64]
  obtain ⟨N, hN⟩ : ∃ N, M.length / 64 = N := ⟨_, rfl⟩
  have hMN : M.length = 64 * N := by omega
  clear hpe hp64 hi hMl hM
  -- the blocks
  refine Post_loop (I := fun p : Nat × List Int => ⟨[(3, .sl (.ex 120 1) K), (4, .ms 120 1 σ.length 0 8), (5, .sl (.ex 5 1) (M.map .u8)), (8, .ms 120 1 (σ.length + 1) 0 64), (9, .int .i64 ((64 * p.1 : Nat) : Int))], [], σ ++ [(blocksV vInit M p.1).cs, p.2.map (.int .u32)]⟩)
    (Pr := fun p => p.1 ≤ N ∧ p.2.length = 64) (μ := fun p => N - p.1) (a := (0, List.replicate 64 0)) (by simp [blocksV]) (by simp) ?_
  rintro ⟨n, l⟩ ⟨hn, hll⟩
  simp only at hn hll ⊢
  obtain ⟨X, hX⟩ : ∃ X, blocksV vInit M n = X := ⟨_, rfl⟩
  obtain ⟨i1, i2, i3, i4⟩ := cs_facts X
  obtain ⟨m, hm⟩ : ∃ m, 64 * n = m := ⟨_, rfl⟩
  simp only [hX, hm]
  by_cases hc2 : n < N
  · have q1 : m < M.length := by omega
    obtain ⟨B, hB2⟩ : ∃ B, (M.drop m).take 64 = B := ⟨_, rfl⟩
    have hBl : B.length = 64 := by rw [← hB2]; simp; omega
    have hBg : ∀ j, j < 64 → M[m + j]? = B[j]? := by
      intro j hj
      rw [← hB2, List.getElem?_take, if_pos hj, List.getElem?_drop]
    have hstep : blocksV vInit M (n + 1) = blockV kConst X B := by rw [blocksV, hX, hm, hB2]
    simp (maxSteps := 4000000) [List.getElem?_cons_zero, List.getElem?_cons_succ, q1]
    -- sixteen words of the block
    refine Post_loop (I := fun j : Nat => ⟨[(3, .sl (.ex 120 1) K), (4, .ms 120 1 σ.length 0 8), (5, .sl (.ex 5 1) (M.map .u8)), (8, .ms 120 1 (σ.length + 1) 0 64), (9, .int .i64 m), (10, .int .i64 j)], [], σ ++ [X.cs, wc B l j]⟩)
      (Pr := fun j => j ≤ 16) (μ := fun j => 16 - j) (a := 0) (by simp [wc, sched]) (by omega) ?_
    intro j hj
    have hlen := wc_len B l j (by omega) hll
    have w1 : IntKind.i64.wrap ((j : Int) + 1) = (j : Int) + 1 := wrap64 (by omega)
    by_cases h16 : j < 16
    · obtain ⟨m4, hm4⟩ : ∃ m4, m + 4 * j = m4 := ⟨_, rfl⟩
      have e4 : IntKind.i64.wrap (4 * (j : Int)) = 4 * (j : Int) := wrap64 (by omega)
      have e5 : IntKind.i64.wrap ((m : Int) + 4 * (j : Int)) = (m4 : Int) := by rw [wrap64 (by omega)]; omega
      have e6 : IntKind.i64.wrap ((m4 : Int) + 1) = ((m4 + 1 : Nat) : Int) := by rw [wrap64 (by omega)]; omega
      have e7 : IntKind.i64.wrap ((m4 : Int) + 2) = ((m4 + 2 : Nat) : Int) := by rw [wrap64 (by omega)]; omega
      have e8 : IntKind.i64.wrap ((m4 : Int) + 3) = ((m4 + 3 : Nat) : Int) := by rw [wrap64 (by omega)]; omega
      obtain ⟨x0, hx0⟩ : ∃ x, M[m4]? = some x := ⟨_, List.getElem?_eq_getElem (by omega)⟩
      obtain ⟨x1, hx1⟩ : ∃ x, M[m4 + 1]? = some x := ⟨_, List.getElem?_eq_getElem (by omega)⟩
      obtain ⟨x2, hx2⟩ : ∃ x, M[m4 + 2]? = some x := ⟨_, List.getElem?_eq_getElem (by omega)⟩
      obtain ⟨x3, hx3⟩ : ∃ x, M[m4 + 3]? = some x := ⟨_, List.getElem?_eq_getElem (by omega)⟩
      have b0 := hBg (4 * j) (by omega)
      have b1 := hBg (4 * j + 1) (by omega)
      have b2 := hBg (4 * j + 2) (by omega)
      have b3 := hBg (4 * j + 3) (by omega)
      rw [hm4, hx0] at b0
      rw [← Nat.add_assoc, hm4, hx1] at b1
      rw [← Nat.add_assoc, hm4, hx2] at b2
      rw [← Nat.add_assoc, hm4, hx3] at b3
      have hset := wc_set B l j (wordAt B j) (by omega) hll (by rw [if_pos h16])
      have hw : wordAt B j = wor (wor (wor (IntKind.u32.wrap ((x0.toNat : Int) * 16777216)) (IntKind.u32.wrap ((x1.toNat : Int) * 65536))) (IntKind.u32.wrap ((x2.toNat : Int) * 256))) (x3.toNat : Int) := by
        simp [wordAt, byteI, List.getD, ← b0, ← b1, ← b2, ← b3]
      rw [hw] at hset
      have h63 : j ≤ 63 := by omega
      have h64 : j < 64 := by omega
      clear hw hBg b0 b1 b2 b3 hm4
      simp (maxSteps := 4000000) [List.getElem?_cons_zero, List.getElem?_cons_succ, -getElem?_pos, h16, h63, h64, e4, e5, e6, e7, e8, hx0, hx1, hx2, hx3, wrapU32_byte, hlen, w1, or_fold, IntKind.bits, hset]
      exact ⟨j + 1, by omega, by omega, by simp, rfl⟩
    have hj16 : j = 16 := by omega
    subst hj16
    clear hBg w1
    simp (maxSteps := 4000000) [List.getElem?_cons_zero, List.getElem?_cons_succ, List.getElem?_cons_zero]
    -- the words behind
    refine Post_loop (I := fun k : Nat => ⟨[(3, .sl (.ex 120 1) K), (4, .ms 120 1 σ.length 0 8), (5, .sl (.ex 5 1) (M.map .u8)), (8, .ms 120 1 (σ.length + 1) 0 64), (9, .int .i64 m), (12, .int .i64 k)], [], σ ++ [X.cs, wc B l k]⟩)
      (Pr := fun k => 16 ≤ k ∧ k ≤ 64) (μ := fun k => 64 - k) (a := 16) (by simp) (by omega) ?_
    rintro k ⟨hk1, hk2⟩
    have hlen2 := wc_len B l k (by omega) hll
    have w1 : IntKind.i64.wrap ((k : Int) + 1) = (k : Int) + 1 := wrap64 (by omega)
    by_cases h64 : k < 64
    · obtain ⟨m1, h1⟩ : ∃ m, k - 15 = m := ⟨_, rfl⟩
      obtain ⟨m2, h2⟩ : ∃ m, k - 2 = m := ⟨_, rfl⟩
      obtain ⟨m3, h3⟩ : ∃ m, k - 16 = m := ⟨_, rfl⟩
      obtain ⟨m4, h4⟩ : ∃ m, k - 7 = m := ⟨_, rfl⟩
      have e1 : IntKind.i64.wrap ((k : Int) - 15) = (m1 : Int) := by rw [wrap64 (by omega)]; omega
      have e2 : IntKind.i64.wrap ((k : Int) - 2) = (m2 : Int) := by rw [wrap64 (by omega)]; omega
      have e3 : IntKind.i64.wrap ((k : Int) - 16) = (m3 : Int) := by rw [wrap64 (by omega)]; omega
      have e4 : IntKind.i64.wrap ((k : Int) - 7) = (m4 : Int) := by rw [wrap64 (by omega)]; omega
      have g1 := wc_get B l k m1 (by omega)
      have g2 := wc_get B l k m2 (by omega)
      have g3 := wc_get B l k m3 (by omega)
      have g4 := wc_get B l k m4 (by omega)
      have l1 : m1 < 64 := by omega
      have l2 : m2 < 64 := by omega
      have l3 : m3 < 64 := by omega
      have l4 : m4 < 64 := by omega
      have r1 := fun σ x => (turns4 σ x).1
      have r2 := fun σ x => (turns4 σ x).2.1
      have r3 := fun σ x => (turns4 σ x).2.2.1
      have r4 := fun σ x => (turns4 σ x).2.2.2
      have hset := wc_set B l k (nextW (sched B k) k) h64 hll (by rw [if_neg (by omega)])
      unfold nextW sig0 sig1 at hset
      rw [h1, h2, h3, h4] at hset
      have h63 : k ≤ 63 := by omega
      generalize (sched B k).getD m1 0 = y1 at *
      generalize (sched B k).getD m2 0 = y2 at *
      generalize (sched B k).getD m3 0 = y3 at *
      generalize (sched B k).getD m4 0 = y4 at *
      clear h1 h2 h3 h4 hlen
      simp (maxSteps := 4000000) [List.getElem?_cons_zero, List.getElem?_cons_succ, -getElem?_pos, h64, h63, e1, e2, e3, e4, g1, g2, g3, g4, l1, l2, l3, l4, r1, r2, r3, r4, hlen2, w1, xor_fold, add_fold, IntKind.bits, hset]
      exact ⟨k + 1, ⟨by omega, by omega⟩, by omega, by simp, rfl⟩
    have hk64 : k = 64 := by omega
    subst hk64
    clear hlen hlen2 w1
    obtain ⟨W, hW⟩ : ∃ W, sched B 64 = W := ⟨_, rfl⟩
    have hWl : W.length = 64 := by rw [← hW, sched_len]
    have hwc : wc B l 64 = W.map (.int .u32) := by unfold wc; rw [hW, List.drop_of_length_le (by omega)]; simp
    rw [hwc]
    obtain ⟨Wc, hWc2⟩ : ∃ Wc, W.map (AV.int .u32) = Wc := ⟨_, rfl⟩
    rw [hWc2]
    have h8 : (8 : Nat) ≤ most := by unfold most; omega
    have hpl : allCells 1 X.cs := by
      intro c hc; simp [V8.cs] at hc; rcases hc with rfl | rfl | rfl | rfl | rfl | rfl | rfl | rfl <;> exact ⟨rfl, fun c h => by simp [AV.cells] at h; subst h; rfl⟩
    simp (maxSteps := 4000000) [List.getElem?_cons_zero, List.getElem?_cons_succ, i1, i2, i3, i4, h8, hpl]
    have hWn : ∀ n, n < 64 → Wc[n]? = some (.int .u32 (W.getD n 0)) := fun n hn => by rw [← hWc2]; exact list_get W n 64 hWl hn
    have hKn : ∀ n, n < 64 → K[n]? = some (.int .u32 (kConst.getD n 0)) := fun n hn => by rw [← hKK]; exact list_get kConst n 64 rfl hn
    have hWcl : Wc.length = 64 := by rw [← hWc2]; simpa using hWl
    have hbv : blockV kConst X B = addV (roundsV X kConst W 64) X := by unfold blockV; rw [hW]
    rw [hbv] at hstep
    -- the rounds
    refine Post_loop (I := fun k : Nat => ⟨[(3, .sl (.ex 120 1) K), (4, .ms 120 1 σ.length 0 8), (5, .sl (.ex 5 1) (M.map .u8)), (8, .ms 120 1 (σ.length + 1) 0 64), (9, .int .i64 m), (15, .sl (.ex 120 1) (roundsV X kConst W k).cs), (16, .int .i64 k)], [], σ ++ [X.cs, Wc]⟩)
      (Pr := fun k => k ≤ 64) (μ := fun k => 64 - k) (a := 0) (by simp [roundsV]) (by omega) ?_
    intro k hk
    obtain ⟨x, hx⟩ : ∃ x, roundsV X kConst W k = x := ⟨_, rfl⟩
    have hxc : x.cs = [.int .u32 x.a, .int .u32 x.b, .int .u32 x.c, .int .u32 x.d, .int .u32 x.e, .int .u32 x.f, .int .u32 x.g, .int .u32 x.h] := rfl
    by_cases hlt : k < 64
    · have g1 := hWn k hlt
      have g2 := hKn k hlt
      have hs1 : roundsV X kConst W (k + 1) = roundV x (kConst.getD k 0) (W.getD k 0) := by rw [roundsV, hx]
      obtain ⟨kk, hkk⟩ : ∃ kk, kConst.getD k 0 = kk := ⟨_, rfl⟩
      obtain ⟨w, hw⟩ : ∃ w, W.getD k 0 = w := ⟨_, rfl⟩
      rw [hw] at g1 hs1
      rw [hkk] at g2 hs1
      clear hWn hKn hkk hw hbv hstep hpl
      have q2 : k ≤ 63 := by omega
      have w1 : IntKind.i64.wrap ((k : Int) + 1) = (k : Int) + 1 := wrap64 (by omega)
      have r1 := fun σ x => (turns σ x).1
      have r2 := fun σ x => (turns σ x).2.1
      have r3 := fun σ x => (turns σ x).2.2.1
      have r4 := fun σ x => (turns σ x).2.2.2.1
      have r5 := fun σ x => (turns σ x).2.2.2.2.1
      have r6 := fun σ x => (turns σ x).2.2.2.2.2
      obtain ⟨Xc, hXc⟩ : ∃ Xc, X.cs = Xc := ⟨_, rfl⟩
      have hmax : IntKind.u32.max = 4294967295 := rfl
      have hnot : ∀ a, bits .xor .u32 4294967295 a = wnot a := fun a => rfl
      have hsg : IntKind.u32.signed = false := rfl
      simp only [hx, hxc, hXc]
      simp (maxSteps := 4000000) [List.getElem?_cons_zero, List.getElem?_cons_succ, -getElem?_pos, hlt, q2, g1, g2, hWcl, w1, r1, r2, r3, r4, r5, r6, hnot, hsg, hmax, xor_fold, and_fold, add_fold]
      exact ⟨k + 1, by omega, by omega, by rw [hs1]; rfl, by simp⟩
    have hk64 : k = 64 := by omega
    subst hk64
    rw [hx] at hstep
    simp only [hx]
    have hst2 : blocksV vInit M (n + 1) = addV X x := by rw [hstep, addV_comm]
    clear hWn hKn hbv hstep
    have hz := addC_zero X x
    rw [V8.cs_eq] at hz
    obtain ⟨xc, hxc2⟩ : ∃ xc, x.cs = xc := ⟨_, rfl⟩
    have hxs : (x.l.map (AV.int .u32)) = xc := hxc2
    have hxcl : xc.length = 8 := by rw [← hxc2]; rfl
    simp only [hxc2]
    simp (maxSteps := 4000000) [List.getElem?_cons_zero, List.getElem?_cons_succ, hWcl]
    -- the sums
    refine Post_loop (I := fun j : Nat => ⟨[(3, .sl (.ex 120 1) K), (4, .ms 120 1 σ.length 0 8), (5, .sl (.ex 5 1) (M.map .u8)), (8, .ms 120 1 (σ.length + 1) 0 64), (9, .int .i64 m), (15, .sl (.ex 120 1) xc), (22, .int .i64 j)], [], σ ++ [addC X x j, Wc]⟩)
      (Pr := fun j => j ≤ 8) (μ := fun j => 8 - j) (a := 0) (by simp [hz]) (by omega) ?_
    intro j hj
    have hl8 := addC_len X x j
    by_cases hj8 : j < 8
    · obtain ⟨y, z, e1, e2, e3⟩ := addC_step X x j hj8
      rw [hxs] at e2
      have q2 : j ≤ 7 := by omega
      have w1 : IntKind.i64.wrap ((j : Int) + 1) = (j : Int) + 1 := wrap64 (by omega)
      simp (maxSteps := 4000000) [List.getElem?_cons_zero, List.getElem?_cons_succ, -getElem?_pos, q2, hj8, e1, e2, hl8, hxcl, w1, add_fold, e3]
      exact ⟨j + 1, by omega, by omega, by simp, rfl⟩
    have hj8' : j = 8 := by omega
    subst hj8'
    have w1 : IntKind.i64.wrap ((m : Int) + 64) = (m : Int) + 64 := wrap64 (by omega)
    have hce := addC_end X x
    rw [V8.cs_eq, ← hst2] at hce
    simp only [hce]
    simp (maxSteps := 4000000) [List.getElem?_cons_zero, List.getElem?_cons_succ, w1]
    refine ⟨n + 1, W, ⟨by omega, hWl⟩, by omega, by omega, by simp, hWc2.symm⟩
  · have hnN : n = N := by omega
    subst hnN
    have q1 : ¬ m < M.length := by omega
    simp (maxSteps := 4000000) [List.getElem?_cons_zero, List.getElem?_cons_succ, q1]
    -- what is handed back
    refine Post_loop (I := fun j : Nat => ⟨[(4, .ms 120 1 σ.length 0 8), (23, .sl (.ex 5 1) (((X.l.take j).flatMap out4).map .u8)), (24, .int .i64 j)], [], σ ++ [X.cs, l.map (.int .u32)]⟩)
      (Pr := fun j => j ≤ 8) (μ := fun j => 8 - j) (a := 0) (by simp) (by omega) ?_
    intro j hj
    obtain ⟨R, hR⟩ : ∃ R, (X.l.take j).flatMap out4 = R := ⟨_, rfl⟩
    have hRl : R.length ≤ 32 := by
      rw [← hR]
      have : ∀ l : List Int, (l.flatMap out4).length = 4 * l.length := by
        intro l
        induction l with
        | nil => rfl
        | cons a r ih => rw [List.flatMap_cons, List.length_append, ih]; simp [out4]; omega
      rw [this]; simp [V8.l]; omega
    simp only [hR]
    by_cases hj8 : j < 8
    · have q2 : j ≤ 7 := by omega
      have g := cs_get X j hj8
      obtain ⟨v, hv⟩ : ∃ v, X.l.getD j 0 = v := ⟨_, rfl⟩
      have hfin := out_succ X j hj8
      rw [hv] at g hfin
      have e4 : IntKind.i64.wrap ((j : Int) + 1) = (j : Int) + 1 := wrap64 (by omega)
      have q7 : R.length + 4 ≤ most := by unfold most; omega
      simp (maxSteps := 4000000) [List.getElem?_cons_zero, List.getElem?_cons_succ, -getElem?_pos, q2, hj8, g, e4, i1, q7, IntKind.bits]
      refine ⟨j + 1, by omega, by omega, ?_, by omega⟩
      rw [hfin, hR]
      simp [out4, b8_wrap]
    have hj8' : j = 8 := by omega
    subst hj8'
    have hfin : sha256 b = R := by
      rw [sha256_laid, hT, hN, hX, ← hR]
      rfl
    rw [hfin]
    simp (maxSteps := 4000000) [List.getElem?_cons_zero, List.getElem?_cons_succ, Tryd.results56]
end Go.Proofs.Tryd.Ai
end
section
/- tlog: halves, the parts that a proof names. -/
namespace Go.Proofs.Tryd.Ai
open Go Go.AI Go.Proofs
set_option maxHeartbeats 2000000
set_option linter.unusedVariables false

theorem half_eq (n : Nat) (h : 2 ≤ n) (hn : n ≤ 2 ^ 40) (σ) : ev 94 [.int .i64 n] σ = some (.int .i64 (halfN n), σ) := by
  refine EV_post rfl Tryd.func94 rfl (by simp [Tryd.ntmps94]) (by kernel_rfl) (by kernel_rfl) ?_
  simp (maxSteps := 4000000) (disch := omega) [dT, dF, wrap64]
  refine Post_loop (I := fun s : Nat => ⟨[(0, .int .i64 n), (3, .int .i64 s)], [], σ⟩) (Pr := fun s => 0 < s ∧ s < n ∧ halfW n s = halfN n) (μ := fun s => n - s) (a := 1) (by simp) ⟨by omega, by omega, rfl⟩ ?_
  rintro s ⟨h0, h1, h2⟩
  have w1 : IntKind.i64.wrap (2 * (s : Int)) = ((2 * s : Nat) : Int) := by rw [wrap64 (by omega)]; omega
  have w2 : IntKind.i64.wrap ((s : Int) * 2) = ((2 * s : Nat) : Int) := by rw [wrap64 (by omega)]; omega
  obtain ⟨d, hd⟩ : ∃ d, 2 * s = d := ⟨_, rfl⟩
  rw [hd] at w1 w2
  by_cases hc : d < n
  · simp (maxSteps := 4000000) [List.getElem?_cons_zero, List.getElem?_cons_succ, w1, w2, hc]
    exact ⟨⟨by omega, by rw [← h2, ← hd]; exact (by rw [halfW.eq_def n s, dif_pos ⟨by omega, h0⟩])⟩, by omega⟩
  · have h3 : halfN n = s := by rw [← h2, halfW, dif_neg (by omega)]
    simp (maxSteps := 4000000) [List.getElem?_cons_zero, List.getElem?_cons_succ, w1, hc, h3, Tryd.results94]
theorem split_eq (n : Nat) (h : 2 ≤ n) (hn : n ≤ 2 ^ 40) (σ) : ev 58 [.int .i64 n] σ = some (.int .i64 (halfN n), σ) := by
  refine EV_post rfl Tryd.func58 rfl (by simp [Tryd.ntmps58]) (by kernel_rfl) (by kernel_rfl) ?_
  simp (maxSteps := 4000000) (disch := omega) [dT, dF, wrap64]
  refine Post_loop (I := fun s : Nat => ⟨[(0, .int .i64 n), (3, .int .i64 s)], [], σ⟩) (Pr := fun s => 0 < s ∧ s < n ∧ halfW n s = halfN n) (μ := fun s => n - s) (a := 1) (by simp) ⟨by omega, by omega, rfl⟩ ?_
  rintro s ⟨h0, h1, h2⟩
  have w1 : IntKind.i64.wrap (2 * (s : Int)) = ((2 * s : Nat) : Int) := by rw [wrap64 (by omega)]; omega
  obtain ⟨d, hd⟩ : ∃ d, 2 * s = d := ⟨_, rfl⟩
  rw [hd] at w1
  by_cases hc : d < n
  · simp (maxSteps := 4000000) [List.getElem?_cons_zero, List.getElem?_cons_succ, w1, hc]
    exact ⟨⟨by omega, by rw [← h2, ← hd]; exact (by rw [halfW.eq_def n s, dif_pos ⟨by omega, h0⟩])⟩, by omega⟩
  · have h3 : halfN n = s := by rw [← h2, halfW, dif_neg (by omega)]
    simp (maxSteps := 4000000) [List.getElem?_cons_zero, List.getElem?_cons_succ, w1, hc, h3, Tryd.results58]
def spanA (x : Nat × Nat) : AV := .agg [.int .i64 x.1, .int .i64 x.2]
theorem path_eq (n : Nat) : ∀ (i frm : Nat), 1 ≤ n → i < n → frm + n ≤ 2 ^ 30 → ∀ σ, ev 63 [.int .i64 i, .agg [.int .i64 frm, .int .i64 n]] σ = some (.sl (.ex 90 2) ((pathN i frm n).map spanA), σ) := by
  induction n using Nat.strongRecOn with
  | _ n ih =>
    intro i frm h1 hi hf σ
    refine EV_post rfl Tryd.func63 rfl (by simp [Tryd.ntmps63]) (by kernel_rfl) (by kernel_rfl) ?_
    by_cases hn : n = 1
    · subst hn
      have e : pathN i frm 1 = [] := by rw [pathN, dif_neg (by omega)]
      simp (maxSteps := 4000000) [List.getElem?_cons_zero, List.getElem?_cons_succ, e, Tryd.results63]
    · have h2 : 2 ≤ n := by omega
      have hs := halfN_spec h2
      have hH := half_eq n h2 (by omega)
      have e : pathN i frm n = if i < halfN n then pathN i frm (halfN n) ++ [(frm + halfN n, n - halfN n)] else pathN (i - halfN n) (frm + halfN n) (n - halfN n) ++ [(frm, halfN n)] := by
        rw [pathN, dif_pos h2]
      have hle : ∀ i a, (pathN i a (halfN n)).length ≤ n ∧ (pathN i a (n - halfN n)).length ≤ n := fun i a => ⟨by have := pathN_le (halfN n) i a; omega, by have := pathN_le (n - halfN n) i a; omega⟩
      rw [e]
      have ihA := ih (halfN n) hs.2.1 i frm hs.1
      have ihB := ih (n - halfN n) (by omega) (i - halfN n) (frm + halfN n) (by omega)
      obtain ⟨s, hsd⟩ : ∃ s, halfN n = s := ⟨_, rfl⟩
      rw [hsd] at hs hH ihA ihB hle ⊢
      have w1 : IntKind.i64.wrap ((frm : Int) + s) = ((frm + s : Nat) : Int) := by rw [wrap64 (by omega)]; omega
      have w2 : IntKind.i64.wrap ((n : Int) - s) = ((n - s : Nat) : Int) := by rw [wrap64 (by omega)]; omega
      obtain ⟨f2, hf2⟩ : ∃ f2, frm + s = f2 := ⟨_, rfl⟩
      obtain ⟨n2, hn2⟩ : ∃ n2, n - s = n2 := ⟨_, rfl⟩
      rw [hf2] at w1 ihB ⊢
      rw [hn2] at w2 ihB hle ⊢
      by_cases hc : i < s
      · have ihA' := ihA hc (by omega)
        have q := (hle i frm).1
        have q2 : (pathN i frm s).length + 1 ≤ most := by unfold most; omega
        rw [if_pos hc]
        generalize pathN i frm s = L at ihA' q2
        simp (maxSteps := 4000000) [List.getElem?_cons_zero, List.getElem?_cons_succ, hn, hH, w1, w2, hc, ihA', q2, spanA, Tryd.results63]
      · have w3 : IntKind.i64.wrap ((i : Int) - s) = ((i - s : Nat) : Int) := by rw [wrap64 (by omega)]; omega
        have ihB' := ihB (by omega) (by omega)
        have q := (hle (i - s) f2).2
        have q2 : (pathN (i - s) f2 n2).length + 1 ≤ most := by unfold most; omega
        rw [if_neg hc]
        generalize pathN (i - s) f2 n2 = L at ihB' q2
        obtain ⟨i2, hi2⟩ : ∃ i2, i - s = i2 := ⟨_, rfl⟩
        rw [hi2] at w3 ihB'
        simp (maxSteps := 4000000) [List.getElem?_cons_zero, List.getElem?_cons_succ, hn, hH, w1, w2, w3, hc, ihB', q2, spanA, Tryd.results63]
theorem steps_eq (i n : Nat) (h1 : 1 ≤ n) (hi : i < n) (hn : n ≤ 2 ^ 30) (σ) : ev 66 [.int .i64 i, .int .i64 n] σ = some (.int .i64 (stepsN i n), σ) := by
  refine EV_post rfl Tryd.func66 rfl (by simp [Tryd.ntmps66]) (by kernel_rfl) (by kernel_rfl) ?_
  simp (maxSteps := 4000000) (disch := omega) [dT, dF, wrap64]
  refine Post_loop (I := fun p : Nat × Nat × Nat => ⟨[(0, .int .i64 p.1), (1, .int .i64 p.2.1), (5, .int .i64 p.2.2)], [], σ⟩) (Pr := fun p => 1 ≤ p.2.1 ∧ p.2.1 ≤ n ∧ p.1 < p.2.1 ∧ p.2.2 + stepsN p.1 p.2.1 = stepsN i n) (μ := fun p => p.2.1) (a := (i, n, 0)) (by simp) ⟨h1, by simp, hi, by simp⟩ ?_
  rintro ⟨a, m, k⟩ ⟨g1, g2, g3, g4⟩
  simp only at g1 g2 g3 g4 ⊢
  by_cases hm : 2 ≤ m
  · have hs := halfN_spec hm
    have hS := split_eq m hm (by omega)
    have e : stepsN a m = if a < halfN m then stepsN a (halfN m) + 1 else stepsN (a - halfN m) (m - halfN m) + 1 := by
      unfold stepsN
      rw [pathN, dif_pos hm]
      split
      · simp
      · simp; exact pathN_len _ _ _ _
    obtain ⟨s, hsd⟩ : ∃ s, halfN m = s := ⟨_, rfl⟩
    rw [hsd] at hs hS e
    rw [e] at g4
    have hm1 : 1 < m := by omega
    have hle : stepsN i n ≤ n := pathN_le _ _ _
    have w0 : IntKind.i64.wrap ((k : Int) + 1) = (k : Int) + 1 := by
      refine wrap64 ?_
      split at g4 <;> omega
    by_cases hc : a < s
    · rw [if_pos hc] at g4
      simp (maxSteps := 4000000) [List.getElem?_cons_zero, List.getElem?_cons_succ, hm1, hS, hc, w0]
      exact ⟨a, s, k + 1, ⟨by omega, by omega, hc, by omega⟩, by omega, rfl, rfl, by simp⟩
    · rw [if_neg hc] at g4
      have w1 : IntKind.i64.wrap ((a : Int) - s) = ((a - s : Nat) : Int) := by rw [wrap64 (by omega)]; omega
      have w2 : IntKind.i64.wrap ((m : Int) - s) = ((m - s : Nat) : Int) := by rw [wrap64 (by omega)]; omega
      simp (maxSteps := 4000000) [List.getElem?_cons_zero, List.getElem?_cons_succ, hm1, hS, hc, w0, w1, w2]
      exact ⟨a - s, m - s, k + 1, ⟨by omega, by omega, by omega, by omega⟩, by omega, rfl, rfl, by simp⟩
  · have hm1 : ¬ 1 < m := by omega
    have e : stepsN a m = 0 := by unfold stepsN; rw [pathN, dif_neg hm]; rfl
    have g5 : stepsN i n = k := by omega
    simp (maxSteps := 4000000) [List.getElem?_cons_zero, List.getElem?_cons_succ, hm1, g5, Tryd.results66]
end Go.Proofs.Tryd.Ai
end
section
/- tlog: nodes; the hash that a path makes. -/
namespace Go.Proofs.Tryd.Ai
open Go Go.AI Go.Proofs
set_option maxHeartbeats 2000000
set_option linter.unusedVariables false

def nodeB (l r : List UInt8) : List UInt8 := sha256 (1 :: (l ++ r))
theorem nodeB_len (l r : List UInt8) : (nodeB l r).length = 32 := sha256_len _
theorem Node_eq (o o' : Own) (l r : List UInt8) (hl : l.length ≤ 2 ^ 28) (hr : r.length ≤ 2 ^ 28) (σ) : ev 91 [.sl o (l.map .u8), .sl o' (r.map .u8)] σ = some (.sl (.ex 5 1) ((nodeB l r).map .u8), σ) := by
  have h1 := fun σ => SHA256_eq .sh (1 :: (l ++ r)) (by simp; omega) σ
  have h2 : 1 + l.length ≤ most := by unfold most; omega
  have h3 : l.length + 1 + r.length ≤ most := by unfold most; omega
  simp only [List.map_cons, List.map_append, AV.u8, show ((UInt8.toNat 1 : Nat) : Int) = 1 from rfl] at h1
  unfold nodeB
  refine EV_post rfl Tryd.func91 rfl (by simp [Tryd.ntmps91]) (by kernel_rfl) (by kernel_rfl) ?_
  simp (maxSteps := 4000000) [List.getElem?_cons_zero, List.getElem?_cons_succ, h1, h2, h3, Tryd.results91]
theorem rNode_eq (o o' : Own) (l r : List UInt8) (hl : l.length ≤ 2 ^ 28) (hr : r.length ≤ 2 ^ 28) (σ) : ev 59 [.sl o (l.map .u8), .sl o' (r.map .u8)] σ = some (.sl (.ex 5 1) ((nodeB l r).map .u8), σ) := by
  have h1 := fun σ => rSHA256_eq .sh (1 :: (l ++ r)) (by simp; omega) σ
  have h2 : 1 + l.length ≤ most := by unfold most; omega
  have h3 : l.length + 1 + r.length ≤ most := by unfold most; omega
  simp only [List.map_cons, List.map_append, AV.u8, show ((UInt8.toNat 1 : Nat) : Int) = 1 from rfl] at h1
  unfold nodeB
  refine EV_post rfl Tryd.func59 rfl (by simp [Tryd.ntmps59]) (by kernel_rfl) (by kernel_rfl) ?_
  simp (maxSteps := 4000000) [List.getElem?_cons_zero, List.getElem?_cons_succ, h1, h2, h3, Tryd.results59]
theorem Equal_eq (o o' : Own) (a b : List UInt8) (σ) : ev 64 [.sl o (a.map .u8), .sl o' (b.map .u8)] σ = some (.bool (a == b), σ) := by
  have hb := bytesOf_map
  refine EV_post rfl Tryd.func64 rfl (by simp [Tryd.ntmps64]) (by kernel_rfl) (by kernel_rfl) ?_
  simp (maxSteps := 4000000) [List.getElem?_cons_zero, List.getElem?_cons_succ, -AV.u8, hb, Tryd.results64]
theorem SameBytes_eq (o o' : Own) (a b : List UInt8) (ha : a.length ≤ 2 ^ 40) (σ) : ev 20 [.sl o (a.map .u8), .sl o' (b.map .u8)] σ = some (.bool (a == b), σ) := by
  refine EV_post rfl Tryd.func20 rfl (by simp [Tryd.ntmps20]) (by kernel_rfl) (by kernel_rfl) ?_
  by_cases hl : a.length = b.length
  · simp (maxSteps := 4000000) [List.getElem?_cons_zero, List.getElem?_cons_succ, hl]
    refine Post_loop (I := fun i : Nat => ⟨[(0, .sl o (a.map .u8)), (1, .sl o' (b.map .u8)), (5, .int .i64 i)], [], σ⟩) (Pr := fun i => i ≤ a.length ∧ a.take i = b.take i) (μ := fun i => a.length - i) (a := 0) (by simp) (by simp) ?_
    rintro i ⟨hi, he⟩
    by_cases hc : i < b.length
    · obtain ⟨x, hx⟩ : ∃ x, a[i]? = some x := ⟨_, List.getElem?_eq_getElem (by omega)⟩
      obtain ⟨y, hy⟩ : ∃ y, b[i]? = some y := ⟨_, List.getElem?_eq_getElem (by omega)⟩
      have w1 : IntKind.i64.wrap ((i : Int) + 1) = (i : Int) + 1 := wrap64 (by omega)
      by_cases hxy : x = y
      · subst hxy
        simp (maxSteps := 4000000) [List.getElem?_cons_zero, List.getElem?_cons_succ, -getElem?_pos, hl, hc, hx, hy, w1]
        refine ⟨i + 1, ⟨by omega, ?_⟩, by omega, by simp⟩
        rw [List.take_add_one, List.take_add_one, he, hx, hy]
      · have hne : (a == b) = false := by
          rw [beq_eq_false_iff_ne]; intro e; rw [e, hy] at hx; injection hx with hx; exact hxy hx.symm
        simp (maxSteps := 4000000) [List.getElem?_cons_zero, List.getElem?_cons_succ, -getElem?_pos, hl, hc, hx, hy, hxy, hne, Tryd.results20]
    · have h1 : a = b := by
        rw [← List.take_of_length_le (show a.length ≤ i by omega), ← List.take_of_length_le (show b.length ≤ i by omega), he]
      have h2 : (a == b) = true := by simpa using h1
      simp (maxSteps := 4000000) [List.getElem?_cons_zero, List.getElem?_cons_succ, hl, hc, h2, Tryd.results20]
  · have h2 : (a == b) = false := by rw [beq_eq_false_iff_ne]; intro e; exact hl (by rw [e])
    simp (maxSteps := 4000000) [List.getElem?_cons_zero, List.getElem?_cons_succ, hl, h2, Tryd.results20]
theorem climbB_len (n : Nat) : ∀ (p : List (List UInt8)) (i : Nat) (leaf : List UInt8), leaf.length ≤ 2 ^ 27 → (climbB nodeB p i n leaf).length ≤ 2 ^ 27 := by
  intro p i leaf hl
  rw [climbB]
  split
  · split <;> rw [nodeB_len] <;> omega
  · exact hl
/-- hashes, as the program holds them -/
abbrev hs (p : List (List UInt8)) : List AV := p.map fun l => .sl .sh (l.map .u8)
theorem climb_eq (n : Nat) : ∀ (p : List (List UInt8)) (i : Nat) (leaf : List UInt8), 1 ≤ n → i < n → n ≤ 2 ^ 30 → p.length = stepsN i n → (∀ x ∈ p, x.length ≤ 2 ^ 27) → leaf.length ≤ 2 ^ 27 → ∀ (σ : List (List AV)),
    ∃ o, ev 65 [.sl .sh (hs p), .int .i64 i, .int .i64 n, .sl .sh (leaf.map .u8)] σ = some (.sl o ((climbB nodeB p i n leaf).map .u8), σ) := by
  induction n using Nat.strongRecOn with
  | _ n ih =>
    intro p i leaf h1 hi hn hp hx hl σ
    by_cases h2 : 2 ≤ n
    · have hsp := halfN_spec h2
      have hH := half_eq n h2 (by omega)
      rw [stepsN_pos h2] at hp
      obtain ⟨k, hk⟩ : ∃ k, (if i < halfN n then stepsN i (halfN n) else stepsN (i - halfN n) (n - halfN n)) = k := ⟨_, rfl⟩
      rw [hk] at hp
      have hkl : k ≤ n := by
        rw [← hk]; split
        · have := pathN_le (halfN n) i 0; unfold stepsN; omega
        · have := pathN_le (n - halfN n) (i - halfN n) 0; unfold stepsN; omega
      obtain ⟨z, hz⟩ : ∃ z, p[k]? = some z := ⟨_, List.getElem?_eq_getElem (by omega)⟩
      have hzm : z.length ≤ 2 ^ 27 := hx z (List.mem_of_getElem? hz)
      have hpt : ∀ x ∈ p.take k, x.length ≤ 2 ^ 27 := fun x h => hx x (List.mem_of_mem_take h)
      have hkk : (p.take k).length = k := by simp; omega
      have hD : p.getD (p.length - 1) [] = z := by rw [hp, Nat.add_sub_cancel]; simp [List.getD, hz]
      have e : climbB nodeB p i n leaf = if i < halfN n then nodeB (climbB nodeB (p.take k) i (halfN n) leaf) z else nodeB z (climbB nodeB (p.take k) (i - halfN n) (n - halfN n) leaf) := by
        rw [climbB, dif_pos h2, hD, hp, Nat.add_sub_cancel]
      rw [e]
      have ihA := ih (halfN n) hsp.2.1 (p.take k) i leaf hsp.1
      have ihB := ih (n - halfN n) (by omega) (p.take k) (i - halfN n) leaf (by omega)
      have w0 : IntKind.i64.wrap ((p.length : Int) - 1) = (k : Int) := by rw [wrap64 (by omega)]; omega
      have w1 : IntKind.i64.wrap (k : Int) = (k : Int) := wrap64 (by omega)
      have hn1 : ¬ n = 1 := by omega
      have q0 : k ≤ p.length := by omega
      by_cases hc : i < halfN n
      · rw [if_pos hc] at hk ⊢
        obtain ⟨o, ho⟩ := ihA hc (by omega) (by rw [hkk, hk]) hpt hl σ
        have hN := Node_eq .sh .sh (climbB nodeB (p.take k) i (halfN n) leaf) z (by have := climbB_len (halfN n) (p.take k) i leaf hl; omega) (by omega)
        generalize climbB nodeB (p.take k) i (halfN n) leaf = C at ho hN
        generalize halfN n = s at hH ho hc
        simp only [hs, List.map_take] at ho
        refine ⟨.ex 5 1, ?_⟩
        refine EV_post rfl Tryd.func65 rfl (by simp [Tryd.ntmps65]) (by kernel_rfl) (by kernel_rfl) ?_
        simp (maxSteps := 4000000) [List.getElem?_cons_zero, List.getElem?_cons_succ, -getElem?_pos, hn1, hH, w0, w1, hp, hz, q0, hc, ho, hN, Tryd.results65]
      · rw [if_neg hc] at hk ⊢
        obtain ⟨o, ho⟩ := ihB (by omega) (by omega) (by rw [hkk, hk]) hpt hl σ
        have hN := Node_eq .sh .sh z (climbB nodeB (p.take k) (i - halfN n) (n - halfN n) leaf) (by omega) (by have := climbB_len (n - halfN n) (p.take k) (i - halfN n) leaf hl; omega)
        generalize climbB nodeB (p.take k) (i - halfN n) (n - halfN n) leaf = C at ho hN
        obtain ⟨s, hsd⟩ : ∃ s, halfN n = s := ⟨_, rfl⟩
        rw [hsd] at hH ho hc hsp
        have w3 : IntKind.i64.wrap ((i : Int) - s) = ((i - s : Nat) : Int) := by rw [wrap64 (by omega)]; omega
        have w4 : IntKind.i64.wrap ((n : Int) - s) = ((n - s : Nat) : Int) := by rw [wrap64 (by omega)]; omega
        simp only [hs, List.map_take] at ho
        refine ⟨.ex 5 1, ?_⟩
        refine EV_post rfl Tryd.func65 rfl (by simp [Tryd.ntmps65]) (by kernel_rfl) (by kernel_rfl) ?_
        simp (maxSteps := 4000000) [List.getElem?_cons_zero, List.getElem?_cons_succ, -getElem?_pos, hn1, hH, w0, w1, w3, w4, hp, hz, q0, hc, ho, hN, Tryd.results65]
    · have hn1 : n = 1 := by omega
      subst hn1
      have e : climbB nodeB p i 1 leaf = leaf := by rw [climbB, dif_neg (by omega)]
      rw [e]
      refine ⟨.sh, ?_⟩
      refine EV_post rfl Tryd.func65 rfl (by simp [Tryd.ntmps65]) (by kernel_rfl) (by kernel_rfl) ?_
      simp (maxSteps := 4000000) [List.getElem?_cons_zero, List.getElem?_cons_succ, Tryd.results65]
end Go.Proofs.Tryd.Ai
end
section
/- tlog: the hashes that a proof makes, by the document; proofs of longer logs. -/
namespace Go.Proofs.Tryd.Ai
open Go Go.AI Go.Proofs
set_option maxHeartbeats 2000000
set_option linter.unusedVariables false

theorem rclimb_eq (n : Nat) : ∀ (p : List (List UInt8)) (i : Nat) (leaf : List UInt8), 1 ≤ n → i < n → n ≤ 2 ^ 30 → p.length = stepsN i n → (∀ x ∈ p, x.length ≤ 2 ^ 27) → leaf.length ≤ 2 ^ 27 → ∀ (σ : List (List AV)),
    ∃ o, ev 68 [.int .i64 i, .int .i64 n, .sl .sh (leaf.map .u8), .sl .sh (hs p)] σ = some (.sl o ((climbB nodeB p i n leaf).map .u8), σ) := by
  induction n using Nat.strongRecOn with
  | _ n ih =>
    intro p i leaf h1 hi hn hp hx hl σ
    by_cases h2 : 2 ≤ n
    · have hsp := halfN_spec h2
      have hH := split_eq n h2 (by omega)
      rw [stepsN_pos h2] at hp
      obtain ⟨k, hk⟩ : ∃ k, (if i < halfN n then stepsN i (halfN n) else stepsN (i - halfN n) (n - halfN n)) = k := ⟨_, rfl⟩
      rw [hk] at hp
      have hkl : k ≤ n := by
        rw [← hk]; split
        · have := pathN_le (halfN n) i 0; unfold stepsN; omega
        · have := pathN_le (n - halfN n) (i - halfN n) 0; unfold stepsN; omega
      obtain ⟨z, hz⟩ : ∃ z, p[k]? = some z := ⟨_, List.getElem?_eq_getElem (by omega)⟩
      have hzm : z.length ≤ 2 ^ 27 := hx z (List.mem_of_getElem? hz)
      have hpt : ∀ x ∈ p.take k, x.length ≤ 2 ^ 27 := fun x h => hx x (List.mem_of_mem_take h)
      have hkk : (p.take k).length = k := by simp; omega
      have hD : p.getD (p.length - 1) [] = z := by rw [hp, Nat.add_sub_cancel]; simp [List.getD, hz]
      have e : climbB nodeB p i n leaf = if i < halfN n then nodeB (climbB nodeB (p.take k) i (halfN n) leaf) z else nodeB z (climbB nodeB (p.take k) (i - halfN n) (n - halfN n) leaf) := by
        rw [climbB, dif_pos h2, hD, hp, Nat.add_sub_cancel]
      rw [e]
      have ihA := ih (halfN n) hsp.2.1 (p.take k) i leaf hsp.1
      have ihB := ih (n - halfN n) (by omega) (p.take k) (i - halfN n) leaf (by omega)
      have w0 : IntKind.i64.wrap ((p.length : Int) - 1) = (k : Int) := by rw [wrap64 (by omega)]; omega
      have w1 : IntKind.i64.wrap (k : Int) = (k : Int) := wrap64 (by omega)
      have hn1 : ¬ n = 1 := by omega
      have q0 : k ≤ p.length := by omega
      by_cases hc : i < halfN n
      · rw [if_pos hc] at hk ⊢
        obtain ⟨o, ho⟩ := ihA hc (by omega) (by rw [hkk, hk]) hpt hl σ
        have hN := rNode_eq .sh .sh (climbB nodeB (p.take k) i (halfN n) leaf) z (by have := climbB_len (halfN n) (p.take k) i leaf hl; omega) (by omega)
        generalize climbB nodeB (p.take k) i (halfN n) leaf = C at ho hN
        generalize halfN n = s at hH ho hc
        simp only [hs, List.map_take] at ho
        refine ⟨.ex 5 1, ?_⟩
        refine EV_post rfl Tryd.func68 rfl (by simp [Tryd.ntmps68]) (by kernel_rfl) (by kernel_rfl) ?_
        simp (maxSteps := 4000000) [List.getElem?_cons_zero, List.getElem?_cons_succ, -getElem?_pos, hn1, hH, w0, w1, hp, hz, q0, hc, ho, hN, Tryd.results68]
      · rw [if_neg hc] at hk ⊢
        obtain ⟨o, ho⟩ := ihB (by omega) (by omega) (by rw [hkk, hk]) hpt hl σ
        have hN := rNode_eq .sh .sh z (climbB nodeB (p.take k) (i - halfN n) (n - halfN n) leaf) (by omega) (by have := climbB_len (n - halfN n) (p.take k) (i - halfN n) leaf hl; omega)
        generalize climbB nodeB (p.take k) (i - halfN n) (n - halfN n) leaf = C at ho hN
        obtain ⟨s, hsd⟩ : ∃ s, halfN n = s := ⟨_, rfl⟩
        rw [hsd] at hH ho hc hsp
        have w3 : IntKind.i64.wrap ((i : Int) - s) = ((i - s : Nat) : Int) := by rw [wrap64 (by omega)]; omega
        have w4 : IntKind.i64.wrap ((n : Int) - s) = ((n - s : Nat) : Int) := by rw [wrap64 (by omega)]; omega
        simp only [hs, List.map_take] at ho
        refine ⟨.ex 5 1, ?_⟩
        refine EV_post rfl Tryd.func68 rfl (by simp [Tryd.ntmps68]) (by kernel_rfl) (by kernel_rfl) ?_
        simp (maxSteps := 4000000) [List.getElem?_cons_zero, List.getElem?_cons_succ, -getElem?_pos, hn1, hH, w0, w1, w3, w4, hp, hz, q0, hc, ho, hN, Tryd.results68]
    · have hn1 : n = 1 := by omega
      subst hn1
      have e : climbB nodeB p i 1 leaf = leaf := by rw [climbB, dif_neg (by omega)]
      rw [e]
      refine ⟨.sh, ?_⟩
      refine EV_post rfl Tryd.func68 rfl (by simp [Tryd.ntmps68]) (by kernel_rfl) (by kernel_rfl) ?_
      simp (maxSteps := 4000000) [List.getElem?_cons_zero, List.getElem?_cons_succ, Tryd.results68]

theorem subproof_eq (n : Nat) : ∀ (m frm : Nat) (w : Bool), 0 < m → m ≤ n → frm + n ≤ 2 ^ 30 → ∀ σ, ev 70 [.int .i64 m, .agg [.int .i64 frm, .int .i64 n], .bool w] σ = some (.sl (.ex 90 2) ((subN m frm n w).map spanA), σ) := by
  induction n using Nat.strongRecOn with
  | _ n ih =>
    intro m frm w h1 hi hf σ
    refine EV_post rfl Tryd.func70 rfl (by simp [Tryd.ntmps70]) (by kernel_rfl) (by kernel_rfl) ?_
    by_cases hn : m = n
    · subst hn
      cases w with
      | true =>
        have e : subN m frm m true = [] := by rw [subN, dif_neg (by omega)]; rfl
        simp (maxSteps := 4000000) [List.getElem?_cons_zero, List.getElem?_cons_succ, e, Tryd.results70]
      | false =>
        have e : subN m frm m false = [(frm, m)] := by rw [subN, dif_neg (by omega)]; rfl
        simp (maxSteps := 4000000) [List.getElem?_cons_zero, List.getElem?_cons_succ, e, spanA, Tryd.results70]
    · have h2 : 2 ≤ n := by omega
      have hs := halfN_spec h2
      have hH := half_eq n h2 (by omega)
      have e : subN m frm n w = if m ≤ halfN n then subN m frm (halfN n) w ++ [(frm + halfN n, n - halfN n)] else subN (m - halfN n) (frm + halfN n) (n - halfN n) false ++ [(frm, halfN n)] := by
        rw [subN, dif_pos (by omega)]
      have hle : ∀ m a w, (subN m a (halfN n) w).length ≤ n + 1 ∧ (subN m a (n - halfN n) w).length ≤ n + 1 := fun i a w => ⟨by have := subN_le (halfN n) i a w; omega, by have := subN_le (n - halfN n) i a w; omega⟩
      rw [e]
      have ihA := ih (halfN n) hs.2.1 m frm w h1
      have ihB := ih (n - halfN n) (by omega) (m - halfN n) (frm + halfN n) false
      obtain ⟨s, hsd⟩ : ∃ s, halfN n = s := ⟨_, rfl⟩
      rw [hsd] at hs hH ihA ihB hle ⊢
      have w1 : IntKind.i64.wrap ((frm : Int) + s) = ((frm + s : Nat) : Int) := by rw [wrap64 (by omega)]; omega
      have w2 : IntKind.i64.wrap ((n : Int) - s) = ((n - s : Nat) : Int) := by rw [wrap64 (by omega)]; omega
      obtain ⟨f2, hf2⟩ : ∃ f2, frm + s = f2 := ⟨_, rfl⟩
      obtain ⟨n2, hn2⟩ : ∃ n2, n - s = n2 := ⟨_, rfl⟩
      rw [hf2] at w1 ihB ⊢
      rw [hn2] at w2 ihB hle ⊢
      by_cases hc : m ≤ s
      · have ihA' := ihA hc (by omega)
        have q := (hle m frm w).1
        have q2 : (subN m frm s w).length + 1 ≤ most := by unfold most; omega
        rw [if_pos hc]
        generalize subN m frm s w = L at ihA' q2
        simp (maxSteps := 4000000) [List.getElem?_cons_zero, List.getElem?_cons_succ, hn, hH, w1, w2, hc, ihA', q2, spanA, Tryd.results70]
      · have w3 : IntKind.i64.wrap ((m : Int) - s) = ((m - s : Nat) : Int) := by rw [wrap64 (by omega)]; omega
        have ihB' := ihB (by omega) (by omega) (by omega)
        have q := (hle (m - s) f2 false).2
        have q2 : (subN (m - s) f2 n2 false).length + 1 ≤ most := by unfold most; omega
        rw [if_neg hc]
        generalize subN (m - s) f2 n2 false = L at ihB' q2
        obtain ⟨i2, hi2⟩ : ∃ i2, m - s = i2 := ⟨_, rfl⟩
        rw [hi2] at w3 ihB'
        simp (maxSteps := 4000000) [List.getElem?_cons_zero, List.getElem?_cons_succ, hn, hH, w1, w2, w3, hc, ihB', q2, spanA, Tryd.results70]
theorem subSteps_eq (m n : Nat) (w : Bool) (h1 : 0 < m) (hi : m ≤ n) (hn : n ≤ 2 ^ 30) (σ) : ev 72 [.int .i64 m, .int .i64 n, .bool w] σ = some (.int .i64 (subStepsN m n w), σ) := by
  refine EV_post rfl Tryd.func72 rfl (by simp [Tryd.ntmps72]) (by kernel_rfl) (by kernel_rfl) ?_
  simp (maxSteps := 4000000) (disch := omega) [dT, dF, wrap64]
  refine Post_loop (I := fun p : Nat × Nat × Bool × Nat => ⟨[(0, .int .i64 p.1), (1, .int .i64 p.2.1), (2, .bool p.2.2.1), (7, .int .i64 p.2.2.2)], [], σ⟩) (Pr := fun p => 0 < p.1 ∧ p.1 ≤ p.2.1 ∧ p.2.1 ≤ n ∧ p.2.2.2 + subStepsN p.1 p.2.1 p.2.2.1 = subStepsN m n w) (μ := fun p => p.2.1) (a := (m, n, w, 0)) (by simp) ⟨h1, hi, by simp, by simp⟩ ?_
  rintro ⟨a, b, v, k⟩ ⟨g1, g2, g3, g4⟩
  simp only at g1 g2 g3 g4 ⊢
  have hle : subStepsN m n w ≤ n + 1 := subN_le _ _ _ _
  have w0 : IntKind.i64.wrap ((k : Int) + 1) = (k : Int) + 1 := wrap64 (by omega)
  by_cases hm : a = b
  · subst hm
    have e : subStepsN a a v = if v then 0 else 1 := subStepsN_end (by omega)
    cases v with
    | true =>
      have g5 : subStepsN m n w = k := by rw [e] at g4; simpa using g4.symm
      simp (maxSteps := 4000000) [List.getElem?_cons_zero, List.getElem?_cons_succ, g5, Tryd.results72]
    | false =>
      have g5 : subStepsN m n w = k + 1 := by rw [e] at g4; simpa using g4.symm
      simp (maxSteps := 4000000) [List.getElem?_cons_zero, List.getElem?_cons_succ, g5, w0, Tryd.results72]
  · have hb2 : 2 ≤ b := by omega
    have hs := halfN_spec hb2
    have hS := split_eq b hb2 (by omega)
    have e := subStepsN_pos (m := a) (n := b) (w := v) (by omega)
    obtain ⟨s, hsd⟩ : ∃ s, halfN b = s := ⟨_, rfl⟩
    rw [hsd] at hs hS e
    rw [e] at g4
    by_cases hc : a ≤ s
    · rw [if_pos hc] at g4
      simp (maxSteps := 4000000) [List.getElem?_cons_zero, List.getElem?_cons_succ, hm, hS, hc, w0]
      cases v
      · exact ⟨a, s, .inl ⟨k + 1, ⟨by omega, by omega, by omega, by omega⟩, by omega, rfl, rfl, rfl, by simp⟩⟩
      · exact ⟨a, s, .inr ⟨k + 1, ⟨by omega, by omega, by omega, by omega⟩, by omega, rfl, rfl, rfl, by simp⟩⟩
    · rw [if_neg hc] at g4
      have w1 : IntKind.i64.wrap ((a : Int) - s) = ((a - s : Nat) : Int) := by rw [wrap64 (by omega)]; omega
      have w2 : IntKind.i64.wrap ((b : Int) - s) = ((b - s : Nat) : Int) := by rw [wrap64 (by omega)]; omega
      simp (maxSteps := 4000000) [List.getElem?_cons_zero, List.getElem?_cons_succ, hm, hS, hc, w0, w1, w2]
      exact ⟨a - s, b - s, k + 1, ⟨by omega, by omega, by omega, by omega⟩, by omega, by omega, by omega, by simp⟩
end Go.Proofs.Tryd.Ai
end
section
/- tlog: proofs are checked. -/
namespace Go.Proofs.Tryd.Ai
open Go Go.AI Go.Proofs
set_option maxHeartbeats 2000000
set_option linter.unusedVariables false

theorem take_all' {α β : Type} {s : List α} {p : α → β} {v : β} {i : Nat} (hc : i < s.length) (hn : ∀ x ∈ s.take i, p x = v) (hq : p s[i] = v) : ∀ x ∈ s.take (i + 1), p x = v := by
  intro x hx
  rw [List.take_succ_eq_append_getElem hc, List.mem_append] at hx
  rcases hx with hx | hx
  · exact hn x hx
  · simp at hx; subst hx; exact hq
def is32 (x : List UInt8) : Bool := decide (x.length = 32)
theorem good_eq (p : List (List UInt8)) (hl : p.length ≤ 2 ^ 40) (σ) : ev 67 [.sl .sh (hs p)] σ = some (.bool (p.all is32), σ) := by
  refine EV_post rfl Tryd.func67 rfl (by simp [Tryd.ntmps67]) (by kernel_rfl) (by kernel_rfl) ?_
  simp (maxSteps := 4000000) (disch := omega) [dT, dF, wrap64]
  refine Post_loop (I := fun i : Nat => ⟨[(0, .sl .sh (hs p)), (3, .int .i64 i)], [], σ⟩) (Pr := fun i => i ≤ p.length ∧ ∀ x ∈ p.take i, is32 x = true) (μ := fun i => p.length - i) (a := 0) (by simp) (by simp) ?_
  rintro i ⟨hi, hn⟩
  by_cases hc : i < p.length
  · obtain ⟨x, hcx⟩ : ∃ x, p[i] = x := ⟨_, rfl⟩
    have hx : p[i]? = some x := by rw [← hcx]; exact List.getElem?_eq_getElem hc
    have w1 : IntKind.i64.wrap ((i : Int) + 1) = (i : Int) + 1 := wrap64 (by omega)
    by_cases h : x.length = 32
    · simp (maxSteps := 4000000) [List.getElem?_cons_zero, List.getElem?_cons_succ, -getElem?_pos, hc, hx, h, w1]
      exact ⟨i + 1, ⟨by omega, take_all' hc hn (by rw [hcx]; simp [is32, h])⟩, by omega, by simp⟩
    · have hf : p.all is32 = false := by
        rw [Bool.eq_false_iff]; intro e
        have := List.all_eq_true.1 e _ (List.getElem_mem hc)
        rw [hcx] at this; simp [is32] at this; exact h this
      simp (maxSteps := 4000000) [List.getElem?_cons_zero, List.getElem?_cons_succ, -getElem?_pos, hc, hx, h, hf, Tryd.results67]
  · have hi' : i = p.length := by omega
    subst hi'
    rw [List.take_length] at hn
    have ht : p.all is32 = true := List.all_eq_true.2 hn
    simp (maxSteps := 4000000) [List.getElem?_cons_zero, List.getElem?_cons_succ, hc, ht, Tryd.results67]
theorem whole_eq (n : Nat) (p q : List (List UInt8)) (hp : p.length ≤ 2 ^ 40) (hq : q.length ≤ 2 ^ 40) (σ) :
    ev 62 [.int .i64 n, .sl .sh (hs p), .sl .sh (hs q)] σ = some (.bool (decide (p.length = n) && (p.all is32 && q.all is32)), σ) := by
  refine EV_post rfl Tryd.func62 rfl (by simp [Tryd.ntmps62]) (by kernel_rfl) (by kernel_rfl) ?_
  by_cases h0 : p.length = n
  · simp (maxSteps := 4000000) [List.getElem?_cons_zero, List.getElem?_cons_succ, h0]
    have w1 : ∀ i : Nat, i ≤ 2 ^ 41 → IntKind.i64.wrap ((i : Int) + 1) = (i : Int) + 1 := fun i h => wrap64 (by omega)
    refine Post_loop (I := fun i : Nat => ⟨[(17, .sl (.ex 31 1) ([p, q].map fun x => .sl .sh (hs x))), (18, .int .i64 2), (19, .int .i64 i)], [], σ⟩) (Pr := fun i => i ≤ 2 ∧ ∀ x ∈ [p, q].take i, ∀ y ∈ x, is32 y = true) (μ := fun i => 2 - i) (a := 0) (by simp) (by simp) ?_
    rintro i ⟨hi, hn⟩
    by_cases hc : i < 2
    · rcases (show i = 0 ∨ i = 1 by omega) with rfl | rfl
      · simp (maxSteps := 4000000) [List.getElem?_cons_zero, List.getElem?_cons_succ, hc]
        refine Post_loop (I := fun j : Nat => ⟨[(17, .sl (.ex 31 1) [.sl .sh (hs p), .sl .sh (hs q)]), (18, .int .i64 2), (19, .int .i64 0), (23, .sl .sh (hs p)), (24, .int .i64 p.length), (25, .int .i64 j)], [], σ⟩) (Pr := fun j => j ≤ p.length ∧ ∀ y ∈ p.take j, is32 y = true) (μ := fun j => p.length - j) (a := 0) (by simp) (by simp) ?_
        rintro j ⟨hj, hjn⟩
        have hw2 := w1 j (by omega)
        by_cases hcj : j < p.length
        · obtain ⟨y, hyx⟩ : ∃ y, p[j] = y := ⟨_, rfl⟩
          have hy : p[j]? = some y := by rw [← hyx]; exact List.getElem?_eq_getElem hcj
          by_cases h : y.length = 32
          · simp (maxSteps := 4000000) [List.getElem?_cons_zero, List.getElem?_cons_succ, -getElem?_pos, hcj, hy, h, hw2]
            exact ⟨j + 1, ⟨by omega, take_all' hcj hjn (by rw [hyx]; simp [is32, h])⟩, by omega, by simp⟩
          · have hf : p.all is32 = false := by
              rw [Bool.eq_false_iff]; intro e
              have := List.all_eq_true.1 e _ (List.getElem_mem hcj)
              rw [hyx] at this; simp [is32] at this; exact h this
            have hg : (p.all is32 && q.all is32) = false := by rw [hf]; simp
            simp (maxSteps := 4000000) [List.getElem?_cons_zero, List.getElem?_cons_succ, -getElem?_pos, hcj, hy, h, hf, Tryd.results62]
        · have hj' : j = p.length := by omega
          subst hj'
          rw [List.take_length] at hjn
          have ht : p.all is32 = true := List.all_eq_true.2 hjn
          have hw3 := w1 0 (by omega)
          have hn2 : ∀ z ∈ [p, q].take 1, ∀ y ∈ z, is32 y = true := by intro z hz; simp at hz; subst hz; exact hjn
          simp (maxSteps := 4000000) [List.getElem?_cons_zero, List.getElem?_cons_succ, hcj, hw3]
          exact ⟨1, ⟨by omega, hn2⟩, by omega, by simp; decide⟩
      · simp (maxSteps := 4000000) [List.getElem?_cons_zero, List.getElem?_cons_succ, hc]
        refine Post_loop (I := fun j : Nat => ⟨[(17, .sl (.ex 31 1) [.sl .sh (hs p), .sl .sh (hs q)]), (18, .int .i64 2), (19, .int .i64 1), (23, .sl .sh (hs q)), (24, .int .i64 q.length), (25, .int .i64 j)], [], σ⟩) (Pr := fun j => j ≤ q.length ∧ ∀ y ∈ q.take j, is32 y = true) (μ := fun j => q.length - j) (a := 0) (by simp) (by simp) ?_
        rintro j ⟨hj, hjn⟩
        have hw2 := w1 j (by omega)
        by_cases hcj : j < q.length
        · obtain ⟨y, hyx⟩ : ∃ y, q[j] = y := ⟨_, rfl⟩
          have hy : q[j]? = some y := by rw [← hyx]; exact List.getElem?_eq_getElem hcj
          by_cases h : y.length = 32
          · simp (maxSteps := 4000000) [List.getElem?_cons_zero, List.getElem?_cons_succ, -getElem?_pos, hcj, hy, h, hw2]
            exact ⟨j + 1, ⟨by omega, take_all' hcj hjn (by rw [hyx]; simp [is32, h])⟩, by omega, by simp⟩
          · have hf : q.all is32 = false := by
              rw [Bool.eq_false_iff]; intro e
              have := List.all_eq_true.1 e _ (List.getElem_mem hcj)
              rw [hyx] at this; simp [is32] at this; exact h this
            have hg : (p.all is32 && q.all is32) = false := by rw [hf]; simp
            simp (maxSteps := 4000000) [List.getElem?_cons_zero, List.getElem?_cons_succ, -getElem?_pos, hcj, hy, h, hf, Tryd.results62]
        · have hj' : j = q.length := by omega
          subst hj'
          rw [List.take_length] at hjn
          have ht : q.all is32 = true := List.all_eq_true.2 hjn
          have hw3 := w1 1 (by omega)
          have hn2 : ∀ z ∈ [p, q].take 2, ∀ y ∈ z, is32 y = true := by intro z hz; simp at hz; rcases hz with rfl | rfl; exact hn _ (by simp); exact hjn
          simp (maxSteps := 4000000) [List.getElem?_cons_zero, List.getElem?_cons_succ, hcj, hw3]
          exact ⟨2, ⟨by omega, hn2⟩, by omega, by simp; decide⟩
    · have hi' : i = 2 := by omega
      subst hi'
      have hp1 : p.all is32 = true := List.all_eq_true.2 (hn p (by simp))
      have hq1 : q.all is32 = true := List.all_eq_true.2 (hn q (by simp))
      simp (maxSteps := 4000000) [List.getElem?_cons_zero, List.getElem?_cons_succ, hp1, hq1, Tryd.results62]
  · simp (maxSteps := 4000000) [List.getElem?_cons_zero, List.getElem?_cons_succ, h0, Tryd.results62]
end Go.Proofs.Tryd.Ai
end
section
/- tlog: the two hashes that a proof of a longer log makes. -/
namespace Go.Proofs.Tryd.Ai
open Go Go.AI Go.Proofs
set_option maxHeartbeats 2000000
set_option linter.unusedVariables false

theorem growB_len (n : Nat) (p : List (List UInt8)) (m : Nat) (w : Bool) (old : List UInt8) (hl : old.length ≤ 2 ^ 27) (hx : ∀ x ∈ p, x.length ≤ 2 ^ 27) : (growB nodeB p m n w old).1.length ≤ 2 ^ 27 ∧ (growB nodeB p m n w old).2.length ≤ 2 ^ 27 := by
  induction n using Nat.strongRecOn generalizing p m w old with
  | _ n ih =>
    rw [growB]
    split
    · rename_i h
      have hsp := halfN_spec (n := n) (by omega)
      split
      · have := ih (halfN n) hsp.2.1 (p.take (p.length - 1)) m w old hl (fun x h => hx x (List.mem_of_mem_take h))
        exact ⟨this.1, by rw [nodeB_len]; omega⟩
      · exact ⟨by rw [nodeB_len]; omega, by rw [nodeB_len]; omega⟩
    · split
      · exact ⟨hl, hl⟩
      · have : (p.getD 0 []).length ≤ 2 ^ 27 := by
          cases p with
          | nil => simp
          | cons a r => exact hx a (by simp)
        exact ⟨this, this⟩

theorem grow_eq (n : Nat) : ∀ (p : List (List UInt8)) (m : Nat) (w : Bool) (old : List UInt8), 0 < m → m ≤ n → n ≤ 2 ^ 30 → p.length = subStepsN m n w → (∀ x ∈ p, x.length ≤ 2 ^ 27) → old.length ≤ 2 ^ 27 → ∀ (σ : List (List AV)),
    ev 71 [.sl .sh (hs p), .int .i64 m, .int .i64 n, .bool w, .sl .sh (old.map .u8)] σ = some (.tup [.sl .sh ((growB nodeB p m n w old).1.map .u8), .sl .sh ((growB nodeB p m n w old).2.map .u8)], σ) := by
  induction n using Nat.strongRecOn with
  | _ n ih =>
    intro p m w old h0 hi hn hp hx hl σ
    by_cases h2 : m < n ∧ 0 < m
    · have hsp := halfN_spec (n := n) (by omega)
      have hH := half_eq n (by omega) (by omega)
      rw [subStepsN_pos h2] at hp
      obtain ⟨k, hk⟩ : ∃ k, (if m ≤ halfN n then subStepsN m (halfN n) w else subStepsN (m - halfN n) (n - halfN n) false) = k := ⟨_, rfl⟩
      rw [hk] at hp
      have hkl : k ≤ n := by
        rw [← hk]; split
        · have := subN_le (halfN n) m 0 w; unfold subStepsN; omega
        · have := subN_le (n - halfN n) (m - halfN n) 0 false; unfold subStepsN; omega
      obtain ⟨z, hz⟩ : ∃ z, p[k]? = some z := ⟨_, List.getElem?_eq_getElem (by omega)⟩
      have hzm : z.length ≤ 2 ^ 27 := hx z (List.mem_of_getElem? hz)
      have hpt : ∀ x ∈ p.take k, x.length ≤ 2 ^ 27 := fun x h => hx x (List.mem_of_mem_take h)
      have hkk : (p.take k).length = k := by simp; omega
      have hD : p.getD (p.length - 1) [] = z := by rw [hp, Nat.add_sub_cancel]; simp [List.getD, hz]
      have e : growB nodeB p m n w old = if m ≤ halfN n then ((growB nodeB (p.take k) m (halfN n) w old).1, nodeB (growB nodeB (p.take k) m (halfN n) w old).2 z)
          else (nodeB z (growB nodeB (p.take k) (m - halfN n) (n - halfN n) false old).1, nodeB z (growB nodeB (p.take k) (m - halfN n) (n - halfN n) false old).2) := by
        rw [growB, dif_pos h2, hD, hp, Nat.add_sub_cancel]
      rw [e]
      have ihA := ih (halfN n) hsp.2.1 (p.take k) m w old h0
      have ihB := ih (n - halfN n) (by omega) (p.take k) (m - halfN n) false old
      have w0 : IntKind.i64.wrap ((p.length : Int) - 1) = (k : Int) := by rw [wrap64 (by omega)]; omega
      have w1 : IntKind.i64.wrap (k : Int) = (k : Int) := wrap64 (by omega)
      have hn1 : ¬ m = n := by omega
      have q0 : k ≤ p.length := by omega
      by_cases hc : m ≤ halfN n
      · rw [if_pos hc] at hk ⊢
        have ho := ihA hc (by omega) (by rw [hkk, hk]) hpt hl σ
        have hg := growB_len (halfN n) (p.take k) m w old hl hpt
        have hN := Node_eq .sh .sh (growB nodeB (p.take k) m (halfN n) w old).2 z (by omega) (by omega)
        generalize growB nodeB (p.take k) m (halfN n) w old = C at ho hN
        generalize halfN n = s at hH ho hc
        simp only [hs, List.map_take] at ho
        refine EV_post rfl Tryd.func71 rfl (by simp [Tryd.ntmps71]) (by kernel_rfl) (by kernel_rfl) ?_
        simp (maxSteps := 4000000) [List.getElem?_cons_zero, List.getElem?_cons_succ, -getElem?_pos, hn1, hH, w0, w1, hp, hz, q0, hc, ho, hN, Tryd.results71]
      · rw [if_neg hc] at hk ⊢
        have ho := ihB (by omega) (by omega) (by omega) (by rw [hkk, hk]) hpt hl σ
        have hg := growB_len (n - halfN n) (p.take k) (m - halfN n) false old hl hpt
        have hN := Node_eq .sh .sh z (growB nodeB (p.take k) (m - halfN n) (n - halfN n) false old).1 (by omega) (by omega)
        have hN2 := Node_eq .sh .sh z (growB nodeB (p.take k) (m - halfN n) (n - halfN n) false old).2 (by omega) (by omega)
        generalize growB nodeB (p.take k) (m - halfN n) (n - halfN n) false old = C at ho hN hN2
        obtain ⟨s, hsd⟩ : ∃ s, halfN n = s := ⟨_, rfl⟩
        rw [hsd] at hH ho hc hsp
        have w3 : IntKind.i64.wrap ((m : Int) - s) = ((m - s : Nat) : Int) := by rw [wrap64 (by omega)]; omega
        have w4 : IntKind.i64.wrap ((n : Int) - s) = ((n - s : Nat) : Int) := by rw [wrap64 (by omega)]; omega
        simp only [hs, List.map_take] at ho
        refine EV_post rfl Tryd.func71 rfl (by simp [Tryd.ntmps71]) (by kernel_rfl) (by kernel_rfl) ?_
        simp (maxSteps := 4000000) [List.getElem?_cons_zero, List.getElem?_cons_succ, -getElem?_pos, hn1, hH, w0, w1, w3, w4, hp, hz, q0, hc, ho, hN, hN2, Tryd.results71]
    · have hn1 : m = n := by omega
      subst hn1
      rw [subStepsN_end h2] at hp
      cases w with
      | true =>
        have e : growB nodeB p m m true old = (old, old) := by rw [growB, dif_neg h2]; rfl
        rw [e]
        refine EV_post rfl Tryd.func71 rfl (by simp [Tryd.ntmps71]) (by kernel_rfl) (by kernel_rfl) ?_
        simp (maxSteps := 4000000) [List.getElem?_cons_zero, List.getElem?_cons_succ, Tryd.results71]
      | false =>
        obtain ⟨z, hz⟩ : ∃ z, p[0]? = some z := ⟨_, List.getElem?_eq_getElem (by simp at hp; omega)⟩
        have e : growB nodeB p m m false old = (z, z) := by rw [growB, dif_neg h2]; simp [List.getD, hz]
        rw [e]
        refine EV_post rfl Tryd.func71 rfl (by simp [Tryd.ntmps71]) (by kernel_rfl) (by kernel_rfl) ?_
        simp (maxSteps := 4000000) [List.getElem?_cons_zero, List.getElem?_cons_succ, -getElem?_pos, hz, Tryd.results71]

theorem two_eq (n : Nat) : ∀ (p : List (List UInt8)) (m : Nat) (w : Bool) (old : List UInt8), 0 < m → m ≤ n → n ≤ 2 ^ 30 → p.length = subStepsN m n w → (∀ x ∈ p, x.length ≤ 2 ^ 27) → old.length ≤ 2 ^ 27 → ∀ (σ : List (List AV)),
    ev 73 [.int .i64 m, .int .i64 n, .bool w, .sl .sh (old.map .u8), .sl .sh (hs p)] σ = some (.tup [.sl .sh ((growB nodeB p m n w old).1.map .u8), .sl .sh ((growB nodeB p m n w old).2.map .u8)], σ) := by
  induction n using Nat.strongRecOn with
  | _ n ih =>
    intro p m w old h0 hi hn hp hx hl σ
    by_cases h2 : m < n ∧ 0 < m
    · have hsp := halfN_spec (n := n) (by omega)
      have hH := split_eq n (by omega) (by omega)
      rw [subStepsN_pos h2] at hp
      obtain ⟨k, hk⟩ : ∃ k, (if m ≤ halfN n then subStepsN m (halfN n) w else subStepsN (m - halfN n) (n - halfN n) false) = k := ⟨_, rfl⟩
      rw [hk] at hp
      have hkl : k ≤ n := by
        rw [← hk]; split
        · have := subN_le (halfN n) m 0 w; unfold subStepsN; omega
        · have := subN_le (n - halfN n) (m - halfN n) 0 false; unfold subStepsN; omega
      obtain ⟨z, hz⟩ : ∃ z, p[k]? = some z := ⟨_, List.getElem?_eq_getElem (by omega)⟩
      have hzm : z.length ≤ 2 ^ 27 := hx z (List.mem_of_getElem? hz)
      have hpt : ∀ x ∈ p.take k, x.length ≤ 2 ^ 27 := fun x h => hx x (List.mem_of_mem_take h)
      have hkk : (p.take k).length = k := by simp; omega
      have hD : p.getD (p.length - 1) [] = z := by rw [hp, Nat.add_sub_cancel]; simp [List.getD, hz]
      have e : growB nodeB p m n w old = if m ≤ halfN n then ((growB nodeB (p.take k) m (halfN n) w old).1, nodeB (growB nodeB (p.take k) m (halfN n) w old).2 z)
          else (nodeB z (growB nodeB (p.take k) (m - halfN n) (n - halfN n) false old).1, nodeB z (growB nodeB (p.take k) (m - halfN n) (n - halfN n) false old).2) := by
        rw [growB, dif_pos h2, hD, hp, Nat.add_sub_cancel]
      rw [e]
      have ihA := ih (halfN n) hsp.2.1 (p.take k) m w old h0
      have ihB := ih (n - halfN n) (by omega) (p.take k) (m - halfN n) false old
      have w0 : IntKind.i64.wrap ((p.length : Int) - 1) = (k : Int) := by rw [wrap64 (by omega)]; omega
      have w1 : IntKind.i64.wrap (k : Int) = (k : Int) := wrap64 (by omega)
      have hn1 : ¬ m = n := by omega
      have q0 : k ≤ p.length := by omega
      by_cases hc : m ≤ halfN n
      · rw [if_pos hc] at hk ⊢
        have ho := ihA hc (by omega) (by rw [hkk, hk]) hpt hl σ
        have hg := growB_len (halfN n) (p.take k) m w old hl hpt
        have hN := rNode_eq .sh .sh (growB nodeB (p.take k) m (halfN n) w old).2 z (by omega) (by omega)
        generalize growB nodeB (p.take k) m (halfN n) w old = C at ho hN
        generalize halfN n = s at hH ho hc
        simp only [hs, List.map_take] at ho
        refine EV_post rfl Tryd.func73 rfl (by simp [Tryd.ntmps73]) (by kernel_rfl) (by kernel_rfl) ?_
        simp (maxSteps := 4000000) [List.getElem?_cons_zero, List.getElem?_cons_succ, -getElem?_pos, hn1, hH, w0, w1, hp, hz, q0, hc, ho, hN, Tryd.results73]
      · rw [if_neg hc] at hk ⊢
        have ho := ihB (by omega) (by omega) (by omega) (by rw [hkk, hk]) hpt hl σ
        have hg := growB_len (n - halfN n) (p.take k) (m - halfN n) false old hl hpt
        have hN := rNode_eq .sh .sh z (growB nodeB (p.take k) (m - halfN n) (n - halfN n) false old).1 (by omega) (by omega)
        have hN2 := rNode_eq .sh .sh z (growB nodeB (p.take k) (m - halfN n) (n - halfN n) false old).2 (by omega) (by omega)
        generalize growB nodeB (p.take k) (m - halfN n) (n - halfN n) false old = C at ho hN hN2
        obtain ⟨s, hsd⟩ : ∃ s, halfN n = s := ⟨_, rfl⟩
        rw [hsd] at hH ho hc hsp
        have w3 : IntKind.i64.wrap ((m : Int) - s) = ((m - s : Nat) : Int) := by rw [wrap64 (by omega)]; omega
        have w4 : IntKind.i64.wrap ((n : Int) - s) = ((n - s : Nat) : Int) := by rw [wrap64 (by omega)]; omega
        simp only [hs, List.map_take] at ho
        refine EV_post rfl Tryd.func73 rfl (by simp [Tryd.ntmps73]) (by kernel_rfl) (by kernel_rfl) ?_
        simp (maxSteps := 4000000) [List.getElem?_cons_zero, List.getElem?_cons_succ, -getElem?_pos, hn1, hH, w0, w1, w3, w4, hp, hz, q0, hc, ho, hN, hN2, Tryd.results73]
    · have hn1 : m = n := by omega
      subst hn1
      rw [subStepsN_end h2] at hp
      cases w with
      | true =>
        have e : growB nodeB p m m true old = (old, old) := by rw [growB, dif_neg h2]; rfl
        rw [e]
        refine EV_post rfl Tryd.func73 rfl (by simp [Tryd.ntmps73]) (by kernel_rfl) (by kernel_rfl) ?_
        simp (maxSteps := 4000000) [List.getElem?_cons_zero, List.getElem?_cons_succ, Tryd.results73]
      | false =>
        obtain ⟨z, hz⟩ : ∃ z, p[0]? = some z := ⟨_, List.getElem?_eq_getElem (by simp at hp; omega)⟩
        have e : growB nodeB p m m false old = (z, z) := by rw [growB, dif_neg h2]; simp [List.getD, hz]
        rw [e]
        refine EV_post rfl Tryd.func73 rfl (by simp [Tryd.ntmps73]) (by kernel_rfl) (by kernel_rfl) ?_
        simp (maxSteps := 4000000) [List.getElem?_cons_zero, List.getElem?_cons_succ, -getElem?_pos, hz, Tryd.results73]
end Go.Proofs.Tryd.Ai
end
section
/- tlog: proofs are checked. -/
namespace Go.Proofs.Tryd.Ai
open Go Go.AI Go.Proofs
set_option maxHeartbeats 4000000
set_option linter.unusedVariables false

/-- what the check of a record answers -/
def recB (p : List (List UInt8)) (i n : Int) (leaf root : List UInt8) : Int :=
  if ¬ (1 ≤ n ∧ n ≤ 1048576 ∧ 0 ≤ i ∧ i < n) then 6 else
  if p.length = stepsN i.toNat n.toNat ∧ p.all is32 = true ∧ is32 leaf = true ∧ is32 root = true then (if climbB nodeB p i.toNat n.toNat leaf == root then 0 else 19) else 19
theorem mayRecord_eq (i n : Int) (σ) : ev 61 [.int .i64 i, .int .i64 n] σ = some (.bool (decide (1 ≤ n ∧ n ≤ 1048576 ∧ 0 ≤ i ∧ i < n)), σ) := by
  refine EV_post rfl Tryd.func61 rfl (by simp [Tryd.ntmps61]) (by kernel_rfl) (by kernel_rfl) ?_
  by_cases h1 : 1 ≤ n
  · by_cases h2 : n ≤ 1048576
    · by_cases h3 : 0 ≤ i
      · simp (maxSteps := 4000000) [List.getElem?_cons_zero, List.getElem?_cons_succ, h1, h2, h3, Tryd.results61]
      · simp (maxSteps := 4000000) [List.getElem?_cons_zero, List.getElem?_cons_succ, h1, h2, h3, Tryd.results61]
    · simp (maxSteps := 4000000) [List.getElem?_cons_zero, List.getElem?_cons_succ, h1, h2, Tryd.results61]
  · simp (maxSteps := 4000000) [List.getElem?_cons_zero, List.getElem?_cons_succ, h1, Tryd.results61]
theorem mayTree_eq (i n : Int) (σ) : ev 69 [.int .i64 i, .int .i64 n] σ = some (.bool (decide (0 ≤ n ∧ n ≤ 1048576 ∧ 0 ≤ i ∧ i ≤ n)), σ) := by
  refine EV_post rfl Tryd.func69 rfl (by simp [Tryd.ntmps69]) (by kernel_rfl) (by kernel_rfl) ?_
  by_cases h1 : 0 ≤ n
  · by_cases h2 : n ≤ 1048576
    · by_cases h3 : 0 ≤ i
      · simp (maxSteps := 4000000) [List.getElem?_cons_zero, List.getElem?_cons_succ, h1, h2, h3, Tryd.results69]
      · simp (maxSteps := 4000000) [List.getElem?_cons_zero, List.getElem?_cons_succ, h1, h2, h3, Tryd.results69]
    · simp (maxSteps := 4000000) [List.getElem?_cons_zero, List.getElem?_cons_succ, h1, h2, Tryd.results69]
  · simp (maxSteps := 4000000) [List.getElem?_cons_zero, List.getElem?_cons_succ, h1, Tryd.results69]
theorem is32_two (a b : List UInt8) : [a, b].all is32 = (is32 a && is32 b) := by simp
theorem CheckRecord_eq (p : List (List UInt8)) (i n : Int) (leaf root : List UInt8) (hp : p.length ≤ 2 ^ 30) (hx : ∀ x ∈ p, x.length ≤ 2 ^ 27) (hl : leaf.length ≤ 2 ^ 27) (hr : root.length ≤ 2 ^ 27) (σ) :
    ev 25 [.sl .sh (hs p), .int .i64 i, .int .i64 n, .sl .sh (leaf.map .u8), .sl .sh (root.map .u8)] σ = some (.int .i64 (recB p i n leaf root), σ) := by
  have hM := mayRecord_eq i n
  refine EV_post rfl Tryd.func25 rfl (by simp [Tryd.ntmps25]) (by kernel_rfl) (by kernel_rfl) ?_
  by_cases hc : 1 ≤ n ∧ n ≤ 1048576 ∧ 0 ≤ i ∧ i < n
  · obtain ⟨a, rfl⟩ := Int.eq_ofNat_of_zero_le (show 0 ≤ i by omega)
    obtain ⟨b, rfl⟩ := Int.eq_ofNat_of_zero_le (show 0 ≤ n by omega)
    have hP := path_eq b a 0 (by omega) (by omega) (by omega)
    have hW := whole_eq (stepsN a b) p [leaf, root] (by omega) (by simp)
    have hlen : (pathN a 0 b).length = stepsN a b := rfl
    have hdec : decide (1 ≤ (b : Int) ∧ (b : Int) ≤ 1048576 ∧ 0 ≤ (a : Int) ∧ (a : Int) < b) = true := decide_eq_true hc
    rw [hdec] at hM
    rw [is32_two] at hW
    simp only [hs, List.map_cons, List.map_nil] at hW
    have hrec : recB p a b leaf root = if p.length = stepsN a b ∧ p.all is32 = true ∧ is32 leaf = true ∧ is32 root = true then (if climbB nodeB p a b leaf == root then 0 else 19) else 19 := by
      unfold recB; rw [if_neg (fun q => q hc)]; rfl
    have hP' : ∀ σ, ev 63 [.int .i64 a, .agg [.int .i64 0, .int .i64 b]] σ = some (.sl (.ex 90 2) ((pathN a 0 b).map spanA), σ) := hP
    by_cases hok : p.length = stepsN a b ∧ p.all is32 = true ∧ is32 leaf = true ∧ is32 root = true
    · obtain ⟨o1, o2, o3, o4⟩ := hok
      obtain ⟨o, hC⟩ := climb_eq b p a leaf (by omega) (by omega) (by omega) o1 hx hl σ
      have hE := fun o o' => Equal_eq o o' (climbB nodeB p a b leaf) root
      rw [if_pos ⟨o1, o2, o3, o4⟩] at hrec
      have hWb : (decide (p.length = stepsN a b) && (p.all is32 && (is32 leaf && is32 root))) = true := by rw [o2, o3, o4]; simp [o1]
      rw [hWb] at hW
      generalize climbB nodeB p a b leaf = C at hC hE hrec
      by_cases hcr : (C == root) = true
      · rw [hcr] at hE hrec
        simp only [if_true] at hrec
        simp (maxSteps := 4000000) [List.getElem?_cons_zero, List.getElem?_cons_succ, hM, hP', hlen, hW, hC, hE, hrec, Tryd.results25]
      · have hcr : (C == root) = false := by simpa using hcr
        rw [hcr] at hE hrec
        simp only [Bool.false_eq_true, if_false] at hrec
        simp (maxSteps := 4000000) [List.getElem?_cons_zero, List.getElem?_cons_succ, hM, hP', hlen, hW, hC, hE, hrec, Tryd.results25]
    · rw [if_neg hok] at hrec
      have hWb : (decide (p.length = stepsN a b) && (p.all is32 && (is32 leaf && is32 root))) = false := by
        rw [Bool.eq_false_iff]; intro e
        simp only [Bool.and_eq_true, decide_eq_true_eq] at e
        exact hok ⟨e.1, e.2.1, e.2.2.1, e.2.2.2⟩
      rw [hWb] at hW
      simp (maxSteps := 4000000) [List.getElem?_cons_zero, List.getElem?_cons_succ, hM, hP', hlen, hW, hrec, Tryd.results25]
  · have hrec : recB p i n leaf root = 6 := by unfold recB; rw [if_pos hc]
    have hdec : decide (1 ≤ n ∧ n ≤ 1048576 ∧ 0 ≤ i ∧ i < n) = false := decide_eq_false hc
    rw [hdec] at hM
    simp (maxSteps := 4000000) [List.getElem?_cons_zero, List.getElem?_cons_succ, hM, hrec, Tryd.results25]
theorem rCheckRecord_eq (p : List (List UInt8)) (i n : Int) (leaf root : List UInt8) (hp : p.length ≤ 2 ^ 30) (hx : ∀ x ∈ p, x.length ≤ 2 ^ 27) (hl : leaf.length ≤ 2 ^ 27) (hr : root.length ≤ 2 ^ 27) (σ) :
    ev 26 [.sl .sh (hs p), .int .i64 i, .int .i64 n, .sl .sh (leaf.map .u8), .sl .sh (root.map .u8)] σ = some (.int .i64 (recB p i n leaf root), σ) := by
  refine EV_post rfl Tryd.func26 rfl (by simp [Tryd.ntmps26]) (by kernel_rfl) (by kernel_rfl) ?_
  by_cases hc : 1 ≤ n ∧ n ≤ 1048576 ∧ 0 ≤ i ∧ i < n
  · obtain ⟨a, rfl⟩ := Int.eq_ofNat_of_zero_le (show 0 ≤ i by omega)
    obtain ⟨b, rfl⟩ := Int.eq_ofNat_of_zero_le (show 0 ≤ n by omega)
    have hS := steps_eq a b (by omega) (by omega) (by omega)
    have hG := good_eq p (by omega)
    have c1 : ¬ b < 1 := by omega
    have c2 : ¬ 1048576 < b := by omega
    have c3 : ¬ b ≤ a := by omega
    have c4 : ¬ b = 0 := by omega
    have hrec : recB p a b leaf root = if p.length = stepsN a b ∧ p.all is32 = true ∧ is32 leaf = true ∧ is32 root = true then (if climbB nodeB p a b leaf == root then 0 else 19) else 19 := by
      unfold recB; rw [if_neg (fun q => q hc)]; rfl
    by_cases o1 : p.length = stepsN a b
    · obtain ⟨st, hst⟩ : ∃ st, stepsN a b = st := ⟨_, rfl⟩
      by_cases o2 : p.all is32 = true
      · by_cases o3 : leaf.length = 32
        · by_cases o4 : root.length = 32
          · obtain ⟨o, hC⟩ := rclimb_eq b p a leaf (by omega) (by omega) (by omega) o1 hx hl σ
            have hE := fun o o' => SameBytes_eq o o' (climbB nodeB p a b leaf) root (by have := climbB_len b p a leaf hl; omega)
            rw [if_pos ⟨o1, o2, by simp [is32, o3], by simp [is32, o4]⟩] at hrec
            generalize climbB nodeB p a b leaf = C at hC hE hrec
            rw [o2] at hG
            rw [hst] at hS o1
            by_cases hcr : (C == root) = true
            · rw [hcr] at hE hrec
              simp only [if_true] at hrec
              simp (maxSteps := 4000000) [List.getElem?_cons_zero, List.getElem?_cons_succ, c1, c2, c3, c4, hS, o1, hG, o3, o4, hC, hE, hrec, Tryd.results26]
            · have hcr : (C == root) = false := by simpa using hcr
              rw [hcr] at hE hrec
              simp only [Bool.false_eq_true, if_false] at hrec
              simp (maxSteps := 4000000) [List.getElem?_cons_zero, List.getElem?_cons_succ, c1, c2, c3, c4, hS, o1, hG, o3, o4, hC, hE, hrec, Tryd.results26]
          · rw [if_neg (by simp [is32, o4])] at hrec
            rw [o2] at hG
            rw [hst] at hS o1
            simp (maxSteps := 4000000) [List.getElem?_cons_zero, List.getElem?_cons_succ, c1, c2, c3, c4, hS, o1, hG, o3, o4, hrec, Tryd.results26]
        · rw [if_neg (by simp [is32, o3])] at hrec
          rw [o2] at hG
          rw [hst] at hS o1
          simp (maxSteps := 4000000) [List.getElem?_cons_zero, List.getElem?_cons_succ, c1, c2, c3, c4, hS, o1, hG, o3, hrec, Tryd.results26]
      · have o2 : p.all is32 = false := by simpa using o2
        rw [if_neg (by simp only [o2]; simp)] at hrec
        rw [o2] at hG
        rw [hst] at hS o1
        simp (maxSteps := 4000000) [List.getElem?_cons_zero, List.getElem?_cons_succ, c1, c2, c3, c4, hS, o1, hG, hrec, Tryd.results26]
    · rw [if_neg (fun e => o1 e.1)] at hrec
      simp (maxSteps := 4000000) [List.getElem?_cons_zero, List.getElem?_cons_succ, c1, c2, c3, c4, hS, o1, hrec, Tryd.results26]
  · have hrec : recB p i n leaf root = 6 := by unfold recB; rw [if_pos hc]
    by_cases c1 : n < 1
    · simp (maxSteps := 4000000) [List.getElem?_cons_zero, List.getElem?_cons_succ, c1, hrec, Tryd.results26]
    · by_cases c2 : 1048576 < n
      · simp (maxSteps := 4000000) [List.getElem?_cons_zero, List.getElem?_cons_succ, c1, c2, hrec, Tryd.results26]
      · by_cases c3 : i < 0
        · simp (maxSteps := 4000000) [List.getElem?_cons_zero, List.getElem?_cons_succ, c1, c2, c3, hrec, Tryd.results26]
        · have c4 : n ≤ i := by omega
          simp (maxSteps := 4000000) [List.getElem?_cons_zero, List.getElem?_cons_succ, c1, c2, c3, c4, hrec, Tryd.results26]
end Go.Proofs.Tryd.Ai
end
section
/- tlog: proofs of longer logs are checked; TlogChecks. -/
namespace Go.Proofs.Tryd.Ai
open Go Go.AI Go.Proofs
set_option maxHeartbeats 4000000
set_option linter.unusedVariables false

/-- what the check of a longer log answers -/
def treeB (p : List (List UInt8)) (m n : Int) (old root : List UInt8) : Int :=
  if ¬ (0 ≤ n ∧ n ≤ 1048576 ∧ 0 ≤ m ∧ m ≤ n) then 6 else
  if m = 0 then (if p.length = 0 then 0 else 19) else
  if m = n then (if p.length = 0 ∧ (old == root) = true then 0 else 19) else
  if p.length = subStepsN m.toNat n.toNat true ∧ p.all is32 = true ∧ is32 old = true ∧ is32 root = true then
    (if ((growB nodeB p m.toNat n.toNat true old).1 == old) = true ∧ ((growB nodeB p m.toNat n.toNat true old).2 == root) = true then 0 else 19) else 19
theorem CheckTree_eq (p : List (List UInt8)) (m n : Int) (old root : List UInt8) (hp : p.length ≤ 2 ^ 30) (hx : ∀ x ∈ p, x.length ≤ 2 ^ 27) (hl : old.length ≤ 2 ^ 27) (hr : root.length ≤ 2 ^ 27) (σ) :
    ev 27 [.sl .sh (hs p), .int .i64 m, .int .i64 n, .sl .sh (old.map .u8), .sl .sh (root.map .u8)] σ = some (.int .i64 (treeB p m n old root), σ) := by
  have hM := mayTree_eq m n
  refine EV_post rfl Tryd.func27 rfl (by simp [Tryd.ntmps27]) (by kernel_rfl) (by kernel_rfl) ?_
  by_cases hc : 0 ≤ n ∧ n ≤ 1048576 ∧ 0 ≤ m ∧ m ≤ n
  · obtain ⟨a, rfl⟩ := Int.eq_ofNat_of_zero_le (show 0 ≤ m by omega)
    obtain ⟨b, rfl⟩ := Int.eq_ofNat_of_zero_le (show 0 ≤ n by omega)
    have hdec : decide (0 ≤ (b : Int) ∧ (b : Int) ≤ 1048576 ∧ 0 ≤ (a : Int) ∧ (a : Int) ≤ b) = true := decide_eq_true hc
    rw [hdec] at hM
    by_cases m0 : a = 0
    · subst m0
      by_cases l0 : p.length = 0
      · have hrec : treeB p (0 : Nat) b old root = 0 := by unfold treeB; rw [if_neg (fun q => q hc), if_pos (by simp), if_pos l0]
        have hrec' : treeB p 0 b old root = 0 := hrec
        have hM' : ∀ σ, ev 69 [.int .i64 0, .int .i64 b] σ = some (.bool true, σ) := hM
        simp (maxSteps := 4000000) [List.getElem?_cons_zero, List.getElem?_cons_succ, hM', l0, hrec', Tryd.results27]
      · have hrec : treeB p (0 : Nat) b old root = 19 := by unfold treeB; rw [if_neg (fun q => q hc), if_pos (by simp), if_neg l0]
        have hrec' : treeB p 0 b old root = 19 := hrec
        have hM' : ∀ σ, ev 69 [.int .i64 0, .int .i64 b] σ = some (.bool true, σ) := hM
        simp (maxSteps := 4000000) [List.getElem?_cons_zero, List.getElem?_cons_succ, hM', l0, hrec', Tryd.results27]
    · have m0' : ¬ (a : Int) = 0 := by omega
      by_cases mn : a = b
      · subst mn
        have hE := fun o o' => Equal_eq o o' old root
        by_cases l0 : p.length = 0
        · by_cases hor : (old == root) = true
          · have hrec : treeB p a a old root = 0 := by unfold treeB; rw [if_neg (fun q => q hc), if_neg m0', if_pos rfl, if_pos ⟨l0, hor⟩]
            rw [hor] at hE
            simp (maxSteps := 4000000) [List.getElem?_cons_zero, List.getElem?_cons_succ, hM, m0, l0, hE, hrec, Tryd.results27]
          · have hrec : treeB p a a old root = 19 := by unfold treeB; rw [if_neg (fun q => q hc), if_neg m0', if_pos rfl, if_neg (fun q => hor q.2)]
            have hor : (old == root) = false := by simpa using hor
            rw [hor] at hE
            simp (maxSteps := 4000000) [List.getElem?_cons_zero, List.getElem?_cons_succ, hM, m0, l0, hE, hrec, Tryd.results27]
        · have hrec : treeB p a a old root = 19 := by unfold treeB; rw [if_neg (fun q => q hc), if_neg m0', if_pos rfl, if_neg (fun q => l0 q.1)]
          simp (maxSteps := 4000000) [List.getElem?_cons_zero, List.getElem?_cons_succ, hM, m0, l0, hrec, Tryd.results27]
      · have mn' : ¬ (a : Int) = b := by omega
        have hS := subproof_eq b a 0 true (by omega) (by omega) (by omega)
        have hS' : ∀ σ, ev 70 [.int .i64 a, .agg [.int .i64 0, .int .i64 b], .bool true] σ = some (.sl (.ex 90 2) ((subN a 0 b true).map spanA), σ) := hS
        have hlen : (subN a 0 b true).length = subStepsN a b true := rfl
        have hW := whole_eq (subStepsN a b true) p [old, root] (by omega) (by simp)
        rw [is32_two] at hW
        simp only [hs, List.map_cons, List.map_nil] at hW
        have hrec : treeB p a b old root = if p.length = subStepsN a b true ∧ p.all is32 = true ∧ is32 old = true ∧ is32 root = true then
            (if ((growB nodeB p a b true old).1 == old) = true ∧ ((growB nodeB p a b true old).2 == root) = true then 0 else 19) else 19 := by
          unfold treeB; rw [if_neg (fun q => q hc), if_neg m0', if_neg mn']; rfl
        by_cases hok : p.length = subStepsN a b true ∧ p.all is32 = true ∧ is32 old = true ∧ is32 root = true
        · obtain ⟨o1, o2, o3, o4⟩ := hok
          have hG := grow_eq b p a true old (by omega) (by omega) (by omega) o1 hx hl
          have hE1 := fun o o' => Equal_eq o o' (growB nodeB p a b true old).1 old
          have hE2 := fun o o' => Equal_eq o o' (growB nodeB p a b true old).2 root
          rw [if_pos ⟨o1, o2, o3, o4⟩] at hrec
          have hWb : (decide (p.length = subStepsN a b true) && (p.all is32 && (is32 old && is32 root))) = true := by rw [o2, o3, o4]; simp [o1]
          rw [hWb] at hW
          generalize growB nodeB p a b true old = C at hG hE1 hE2 hrec
          by_cases c1 : (C.1 == old) = true
          · by_cases c2 : (C.2 == root) = true
            · rw [if_pos ⟨c1, c2⟩] at hrec
              rw [c1] at hE1
              rw [c2] at hE2
              simp (maxSteps := 4000000) [List.getElem?_cons_zero, List.getElem?_cons_succ, hM, m0, mn, hS', hlen, hW, hG, hE1, hE2, hrec, Tryd.results27]
            · rw [if_neg (fun q => c2 q.2)] at hrec
              have c2 : (C.2 == root) = false := by simpa using c2
              rw [c1] at hE1
              rw [c2] at hE2
              simp (maxSteps := 4000000) [List.getElem?_cons_zero, List.getElem?_cons_succ, hM, m0, mn, hS', hlen, hW, hG, hE1, hE2, hrec, Tryd.results27]
          · rw [if_neg (fun q => c1 q.1)] at hrec
            have c1 : (C.1 == old) = false := by simpa using c1
            rw [c1] at hE1
            simp (maxSteps := 4000000) [List.getElem?_cons_zero, List.getElem?_cons_succ, hM, m0, mn, hS', hlen, hW, hG, hE1, hrec, Tryd.results27]
        · rw [if_neg hok] at hrec
          have hWb : (decide (p.length = subStepsN a b true) && (p.all is32 && (is32 old && is32 root))) = false := by
            rw [Bool.eq_false_iff]; intro e
            simp only [Bool.and_eq_true, decide_eq_true_eq] at e
            exact hok ⟨e.1, e.2.1, e.2.2.1, e.2.2.2⟩
          rw [hWb] at hW
          simp (maxSteps := 4000000) [List.getElem?_cons_zero, List.getElem?_cons_succ, hM, m0, mn, hS', hlen, hW, hrec, Tryd.results27]
  · have hrec : treeB p m n old root = 6 := by unfold treeB; rw [if_pos hc]
    have hdec : decide (0 ≤ n ∧ n ≤ 1048576 ∧ 0 ≤ m ∧ m ≤ n) = false := decide_eq_false hc
    rw [hdec] at hM
    simp (maxSteps := 4000000) [List.getElem?_cons_zero, List.getElem?_cons_succ, hM, hrec, Tryd.results27]
theorem rCheckTree_eq (p : List (List UInt8)) (m n : Int) (old root : List UInt8) (hp : p.length ≤ 2 ^ 30) (hx : ∀ x ∈ p, x.length ≤ 2 ^ 27) (hl : old.length ≤ 2 ^ 27) (hr : root.length ≤ 2 ^ 27) (σ) :
    ev 28 [.sl .sh (hs p), .int .i64 m, .int .i64 n, .sl .sh (old.map .u8), .sl .sh (root.map .u8)] σ = some (.int .i64 (treeB p m n old root), σ) := by
  have hB := fun o o' => SameBytes_eq o o' old root (by omega)
  refine EV_post rfl Tryd.func28 rfl (by simp [Tryd.ntmps28]) (by kernel_rfl) (by kernel_rfl) ?_
  by_cases hc : 0 ≤ n ∧ n ≤ 1048576 ∧ 0 ≤ m ∧ m ≤ n
  · obtain ⟨a, rfl⟩ := Int.eq_ofNat_of_zero_le (show 0 ≤ m by omega)
    obtain ⟨b, rfl⟩ := Int.eq_ofNat_of_zero_le (show 0 ≤ n by omega)
    have c2 : ¬ 1048576 < b := by omega
    have c3 : ¬ b < a := by omega
    by_cases m0 : a = 0
    · subst m0
      by_cases l0 : p.length = 0
      · have hrec : treeB p (0 : Nat) b old root = 0 := by unfold treeB; rw [if_neg (fun q => q hc), if_pos (by simp), if_pos l0]
        have hrec' : treeB p 0 b old root = 0 := hrec
        simp (maxSteps := 4000000) [List.getElem?_cons_zero, List.getElem?_cons_succ, c2, c3, l0, hB, hrec', Tryd.results28]
      · have hrec : treeB p (0 : Nat) b old root = 19 := by unfold treeB; rw [if_neg (fun q => q hc), if_pos (by simp), if_neg l0]
        have hrec' : treeB p 0 b old root = 19 := hrec
        simp (maxSteps := 4000000) [List.getElem?_cons_zero, List.getElem?_cons_succ, c2, c3, l0, hB, hrec', Tryd.results28]
    · have m0' : ¬ (a : Int) = 0 := by omega
      by_cases mn : a = b
      · subst mn
        by_cases l0 : p.length = 0
        · by_cases hor : (old == root) = true
          · have hrec : treeB p a a old root = 0 := by unfold treeB; rw [if_neg (fun q => q hc), if_neg m0', if_pos rfl, if_pos ⟨l0, hor⟩]
            rw [hor] at hB
            simp (maxSteps := 4000000) [List.getElem?_cons_zero, List.getElem?_cons_succ, c2, c3, m0, l0, hB, hrec, Tryd.results28]
          · have hrec : treeB p a a old root = 19 := by unfold treeB; rw [if_neg (fun q => q hc), if_neg m0', if_pos rfl, if_neg (fun q => hor q.2)]
            have hor : (old == root) = false := by simpa using hor
            rw [hor] at hB
            simp (maxSteps := 4000000) [List.getElem?_cons_zero, List.getElem?_cons_succ, c2, c3, m0, l0, hB, hrec, Tryd.results28]
        · have hrec : treeB p a a old root = 19 := by unfold treeB; rw [if_neg (fun q => q hc), if_neg m0', if_pos rfl, if_neg (fun q => l0 q.1)]
          simp (maxSteps := 4000000) [List.getElem?_cons_zero, List.getElem?_cons_succ, c2, c3, m0, l0, hB, hrec, Tryd.results28]
      · have mn' : ¬ (a : Int) = b := by omega
        have hS := subSteps_eq a b true (by omega) (by omega) (by omega)
        have hGd := good_eq p (by omega)
        have hrec : treeB p a b old root = if p.length = subStepsN a b true ∧ p.all is32 = true ∧ is32 old = true ∧ is32 root = true then
            (if ((growB nodeB p a b true old).1 == old) = true ∧ ((growB nodeB p a b true old).2 == root) = true then 0 else 19) else 19 := by
          unfold treeB; rw [if_neg (fun q => q hc), if_neg m0', if_neg mn']; rfl
        obtain ⟨st, hst⟩ : ∃ st, subStepsN a b true = st := ⟨_, rfl⟩
        by_cases o1 : p.length = subStepsN a b true
        · by_cases o2 : p.all is32 = true
          · by_cases o3 : old.length = 32
            · by_cases o4 : root.length = 32
              · have hG := two_eq b p a true old (by omega) (by omega) (by omega) o1 hx hl
                have hgl := growB_len b p a true old hl hx
                have hE1 := fun o o' => SameBytes_eq o o' (growB nodeB p a b true old).1 old (by omega)
                have hE2 := fun o o' => SameBytes_eq o o' (growB nodeB p a b true old).2 root (by omega)
                rw [if_pos ⟨o1, o2, by simp [is32, o3], by simp [is32, o4]⟩] at hrec
                generalize growB nodeB p a b true old = C at hG hE1 hE2 hrec
                rw [o2] at hGd
                rw [hst] at hS o1
                by_cases c1 : (C.1 == old) = true
                · by_cases c4 : (C.2 == root) = true
                  · rw [if_pos ⟨c1, c4⟩] at hrec
                    rw [c1] at hE1
                    rw [c4] at hE2
                    simp (maxSteps := 4000000) [List.getElem?_cons_zero, List.getElem?_cons_succ, c2, c3, m0, mn, hS, o1, hGd, o3, o4, hG, hE1, hE2, hrec, Tryd.results28]
                  · rw [if_neg (fun q => c4 q.2)] at hrec
                    have c4 : (C.2 == root) = false := by simpa using c4
                    rw [c1] at hE1
                    rw [c4] at hE2
                    simp (maxSteps := 4000000) [List.getElem?_cons_zero, List.getElem?_cons_succ, c2, c3, m0, mn, hS, o1, hGd, o3, o4, hG, hE1, hE2, hrec, Tryd.results28]
                · rw [if_neg (fun q => c1 q.1)] at hrec
                  have c1 : (C.1 == old) = false := by simpa using c1
                  rw [c1] at hE1
                  simp (maxSteps := 4000000) [List.getElem?_cons_zero, List.getElem?_cons_succ, c2, c3, m0, mn, hS, o1, hGd, o3, o4, hG, hE1, hE2, hrec, Tryd.results28]
              · rw [if_neg (by simp [is32, o4])] at hrec
                rw [o2] at hGd
                rw [hst] at hS o1
                simp (maxSteps := 4000000) [List.getElem?_cons_zero, List.getElem?_cons_succ, c2, c3, m0, mn, hS, o1, hGd, o3, o4, hrec, Tryd.results28]
            · rw [if_neg (by simp [is32, o3])] at hrec
              rw [o2] at hGd
              rw [hst] at hS o1
              simp (maxSteps := 4000000) [List.getElem?_cons_zero, List.getElem?_cons_succ, c2, c3, m0, mn, hS, o1, hGd, o3, hrec, Tryd.results28]
          · have o2 : p.all is32 = false := by simpa using o2
            rw [if_neg (by simp only [o2]; simp)] at hrec
            rw [o2] at hGd
            rw [hst] at hS o1
            simp (maxSteps := 4000000) [List.getElem?_cons_zero, List.getElem?_cons_succ, c2, c3, m0, mn, hS, o1, hGd, hrec, Tryd.results28]
        · rw [if_neg (fun e => o1 e.1)] at hrec
          simp (maxSteps := 4000000) [List.getElem?_cons_zero, List.getElem?_cons_succ, c2, c3, m0, mn, hS, o1, hrec, Tryd.results28]
  · have hrec : treeB p m n old root = 6 := by unfold treeB; rw [if_pos hc]
    by_cases c1 : n < 0
    · simp (maxSteps := 4000000) [List.getElem?_cons_zero, List.getElem?_cons_succ, c1, hrec, Tryd.results28]
    · by_cases c2 : 1048576 < n
      · simp (maxSteps := 4000000) [List.getElem?_cons_zero, List.getElem?_cons_succ, c1, c2, hrec, Tryd.results28]
      · by_cases c3 : m < 0
        · simp (maxSteps := 4000000) [List.getElem?_cons_zero, List.getElem?_cons_succ, c1, c2, c3, hrec, Tryd.results28]
        · have c4 : n < m := by omega
          simp (maxSteps := 4000000) [List.getElem?_cons_zero, List.getElem?_cons_succ, c1, c2, c3, c4, hrec, Tryd.results28]
end Go.Proofs.Tryd.Ai
end
section
/- TlogChecks. -/
namespace Go.Proofs.Tryd.Ai
open Go Go.AI Go.Proofs
set_option maxHeartbeats 4000000
set_option linter.unusedVariables false

theorem checks_eq (p : List (List UInt8)) (i m n : Int) (a b : List UInt8) (σ) :
    ev 5 [.sl .sh (hs p), .int .i64 i, .int .i64 m, .int .i64 n, .sl .sh (a.map .u8), .sl .sh (b.map .u8)] σ = some (.bool true, σ) := by
  refine EV_post rfl Tryd.func5 rfl (by simp [Tryd.ntmps5]) (by kernel_rfl) (by kernel_rfl) ?_
  by_cases h1 : 40 < p.length
  · simp (maxSteps := 4000000) [List.getElem?_cons_zero, List.getElem?_cons_succ, first_eq, h1, Tryd.results5]
  · by_cases h2 : 100 < a.length
    · simp (maxSteps := 4000000) [List.getElem?_cons_zero, List.getElem?_cons_succ, first_eq, h1, h2, Tryd.results5]
    · by_cases h3 : 100 < b.length
      · simp (maxSteps := 4000000) [List.getElem?_cons_zero, List.getElem?_cons_succ, first_eq, h1, h2, h3, Tryd.results5]
      · simp (maxSteps := 4000000) [List.getElem?_cons_zero, List.getElem?_cons_succ, first_eq, h1, h2, h3]
        refine Post_loop (I := fun j : Nat => ⟨[(0, .sl .sh (hs p)), (1, .int .i64 i), (2, .int .i64 m), (3, .int .i64 n), (4, .sl .sh (a.map .u8)), (5, .sl .sh (b.map .u8)), (14, .int .i64 j)], [], σ⟩) (Pr := fun j => j ≤ p.length ∧ ∀ x ∈ p.take j, x.length ≤ 100) (μ := fun j => p.length - j) (a := 0) (by simp) (by simp) ?_
        rintro j ⟨hj, hn⟩
        by_cases hc : j < p.length
        · obtain ⟨x, hcx⟩ : ∃ x, p[j] = x := ⟨_, rfl⟩
          have hx : p[j]? = some x := by rw [← hcx]; exact List.getElem?_eq_getElem hc
          have w1 : IntKind.i64.wrap ((j : Int) + 1) = (j : Int) + 1 := wrap64 (by omega)
          by_cases h : 100 < x.length
          · simp (maxSteps := 4000000) [List.getElem?_cons_zero, List.getElem?_cons_succ, -getElem?_pos, hc, hx, h, Tryd.results5]
          · have hn2 : ∀ y ∈ p.take (j + 1), y.length ≤ 100 := by
              intro y hy
              rw [List.take_succ_eq_append_getElem hc, List.mem_append] at hy
              rcases hy with hy | hy
              · exact hn y hy
              · simp at hy; rw [hy, hcx]; omega
            simp (maxSteps := 4000000) [List.getElem?_cons_zero, List.getElem?_cons_succ, -getElem?_pos, hc, hx, h, w1]
            exact ⟨j + 1, ⟨by omega, hn2⟩, by omega, by simp⟩
        · have hj' : j = p.length := by omega
          subst hj'
          rw [List.take_length] at hn
          have hx : ∀ x ∈ p, x.length ≤ 2 ^ 27 := fun x h => by have := hn x h; omega
          have c1 := CheckRecord_eq p i n a b (by omega) hx (by omega) (by omega)
          have c2 := rCheckRecord_eq p i n a b (by omega) hx (by omega) (by omega)
          have c3 := CheckTree_eq p m n a b (by omega) hx (by omega) (by omega)
          have c4 := rCheckTree_eq p m n a b (by omega) hx (by omega) (by omega)
          generalize recB p i n a b = x at c1 c2
          generalize treeB p m n a b = y at c3 c4
          simp (maxSteps := 4000000) [List.getElem?_cons_zero, List.getElem?_cons_succ, hc, c1, c2, c3, c4, Num_eq, Tryd.results5]
end Go.Proofs.Tryd.Ai
end
section
/- A statement's arguments, as the evaluation holds them. No program is in sight. -/
namespace Go.AI
open Go.RowKit Go.ChangeShapes
set_option linter.unusedVariables false

theorem plain_addr {w : World} {a : Addr} {v : Value} (h : w.cell? a = some v) : ∃ b off, a = ⟨b, off, none⟩ := by
  obtain ⟨b, off, s⟩ := a
  cases s with
  | none => exact ⟨b, off, rfl⟩
  | some s =>
    simp only [World.cell?] at h
    split at h <;> simp at h

section
variable {H : Type} {enc : TypeId × Value → H} {P : Program} {W : World} {t e : TypeId} {α : Type}

/-- what is read at a type is a value of α, held as R says; Q: what of the datum -/
structure Reads (enc : TypeId × Value → H) (P : Program) (W : World) (t : TypeId) {α : Type} (R : α → AV) (Q : α → DataW H → Prop) : Prop where
  cells : ∀ a, (R a).cells.length = P.cellsOf t ∧ (∀ c ∈ (R a).cells, plain c = true)
  pos : 0 < P.cellsOf t
  rd : ∀ fuel cs x, DataW.trod enc P W 0 (fun _ => true) true fuel t cs = some x → ∃ a, Q a x.1 ∧ cs.length = P.cellsOf t ∧ ∀ j c, (R a).cells[j]? = some c → Rep W.heap.size gh0 W (cs.getD j undef) c

theorem one_cell {v : Value} {c : AV} (h : Rep W.heap.size gh0 W v c) : ∀ j c', [c][j]? = some c' → Rep W.heap.size gh0 W ([v].getD j undef) c' := by
  intro j c' e
  cases j with
  | zero => simp at e; subst e; exact h
  | succ j => simp at e

theorem Reads.int {k : IntKind} (ht : P.underlying t = some (.int k)) (hc : P.cellsOf t = 1) : Reads enc P W t (fun n : Int => AV.int k n) (fun n d => d = .lit (.int k n) ∧ (Lit.int k n).wf = true) := by
  refine ⟨fun a => ⟨by rw [hc]; rfl, fun c h => by simp [AV.cells] at h; subst h; rfl⟩, by omega, fun fuel cs x h => ?_⟩
  obtain ⟨n, rfl, rfl, hw⟩ := DataW.trod_int ht h
  exact ⟨n, ⟨rfl, hw⟩, by simp [hc], one_cell (.int k n)⟩
theorem Reads.u8 (ht : P.underlying t = some (.int .u8)) (hc : P.cellsOf t = 1) : Reads enc P W t AV.u8 (fun n d => d = .lit (.int .u8 n.toNat)) := by
  refine ⟨fun a => ⟨by rw [hc]; rfl, fun c h => by simp [AV.cells, AV.u8] at h; subst h; rfl⟩, by omega, fun fuel cs x h => ?_⟩
  obtain ⟨n, rfl, rfl, hw⟩ := DataW.trod_int ht h
  have hb := bounds_u8 hw
  obtain ⟨m, rfl⟩ := Int.eq_ofNat_of_zero_le hb.1
  have hm : (UInt8.ofNat m).toNat = m := by simp only [UInt8.toNat_ofNat']; omega
  exact ⟨UInt8.ofNat m, by rw [hm], by simp [hc], one_cell (by rw [AV.u8, hm]; exact .int _ _)⟩
theorem Reads.bool (ht : P.underlying t = some .bool) (hc : P.cellsOf t = 1) : Reads enc P W t AV.bool (fun b d => d = .lit (.bool b)) := by
  refine ⟨fun a => ⟨by rw [hc]; rfl, fun c h => by simp [AV.cells] at h; subst h; rfl⟩, by omega, fun fuel cs x h => ?_⟩
  cases fuel with
  | zero => simp [DataW.trod] at h
  | succ n =>
    unfold DataW.trod at h
    rw [ht] at h
    split at h
    all_goals first
      | (rename_i b _; injection h with h; subst h; exact ⟨b, rfl, by simp [hc], one_cell (.bool _)⟩)
      | (simp at *; done)
theorem Reads.str (ht : P.underlying t = some .string) (hc : P.cellsOf t = 1) : Reads enc P W t AV.str (fun s d => d = .lit (.string s) ∧ s.length ≤ maxLen) := by
  refine ⟨fun a => ⟨by rw [hc]; rfl, fun c h => by simp [AV.cells] at h; subst h; rfl⟩, by omega, fun fuel cs x h => ?_⟩
  obtain ⟨s, rfl, rfl, hw⟩ := DataW.trod_string ht h
  exact ⟨s.data.toList, ⟨rfl, by simpa using hw⟩, by simp [hc], one_cell (.str s)⟩

theorem cells_get {w : World} {a : Addr} {n : Nat} {cs : List Value} (h : w.cells? 0 a n = some cs) : cs.length = n ∧ ∀ j, j < n → w.cell? (a.add j) = some (cs.getD j undef) := by
  unfold World.cells? at h
  rw [if_pos (Nat.zero_le _)] at h
  have hl := mapM_some_length h
  refine ⟨by simpa using hl, fun j hj => ?_⟩
  have h1 := mapM_some_get h j j (by simp [hj])
  have hlt : j < cs.length := by rw [hl]; simpa using hj
  rw [h1, List.getElem?_eq_getElem hlt]
  simp [List.getD, List.getElem?_eq_getElem hlt]

theorem flat_at {α : Type} {R : α → AV} (l : List α) (i j : Nat) (c : AV) (h : ((l.map R)[i]?.bind fun e => e.cells[j]?) = some c) : ∃ a, l[i]? = some a ∧ (R a).cells[j]? = some c := by
  rw [List.getElem?_map] at h
  cases hx : l[i]? with
  | none => rw [hx] at h; cases h
  | some a => rw [hx] at h; exact ⟨a, rfl, h⟩
theorem choose_list {α : Type} {Q : Nat → α → Prop} (n : Nat) (h : ∀ i, i < n → ∃ z, Q i z) : ∃ l : List α, l.length = n ∧ ∀ (i : Nat) (z : α), l[i]? = some z → Q i z := by
  induction n with
  | zero => exact ⟨[], rfl, fun i z e => by simp at e⟩
  | succ n ih =>
    obtain ⟨l, hl, hq⟩ := ih fun i hi => h i (by omega)
    obtain ⟨z, hz⟩ := h n (by omega)
    refine ⟨l ++ [z], by simp [hl], fun i y e => ?_⟩
    rw [List.getElem?_append] at e
    split at e
    · exact hq i y e
    · rename_i hi
      have : i = n := by
        rcases Nat.lt_or_ge (i - l.length) 1 with q | q
        · omega
        · rw [List.getElem?_eq_none (by simpa using q)] at e; cases e
      subst this
      simp [hl] at e; subst e; exact hz

/-- a slice's datum, by its elements' -/
def slQ {α : Type} (Q : α → DataW H → Prop) (l : List α) (d : DataW H) : Prop :=
  (l = [] ∧ d = .nil) ∨ ∃ ds rest, d = .slice ds rest ∧ l.length = ds.length ∧ l.length ≤ maxLen ∧ ∀ (i : Nat) (a : α) (x : DataW H), l[i]? = some a → ds[i]? = some x → Q a x

theorem Reads.slice {R : α → AV} {Q : α → DataW H → Prop} (h : Reads enc P W e R Q) (ht : P.underlying t = some (.slice e)) (hc : P.cellsOf t = 1) : Reads enc P W t (fun l : List α => AV.sl .sh (l.map R)) (slQ Q) := by
  refine ⟨fun a => ⟨by rw [hc]; rfl, fun c q => by simp [AV.cells] at q; subst q; rfl⟩, by omega, fun fuel cs x hx => ?_⟩
  rcases Go.Deep.open_slice ht hx with ⟨rfl, rfl⟩ | ⟨a, len, cap, m, n, D, Pl, rfl, hb, hl, hm, hm2, rfl, hel⟩
  · exact ⟨[], .inl ⟨rfl, rfl⟩, by simp [hc], one_cell (.slnil _)⟩
  · simp only [if_true] at hm2
    subst hm2
    obtain ⟨l, hl2, hq⟩ := choose_list (Q := fun i (z : α) => Q z (D i) ∧ ∀ j, j < P.cellsOf e → ∃ v, W.cell? ((a.add (i * P.cellsOf e)).add j) = some v ∧ ∀ c, (R z).cells[j]? = some c → Rep W.heap.size gh0 W v c) len (by
      intro i hi
      obtain ⟨cs', h1, h2⟩ := hel i (by omega)
      obtain ⟨z, h3, h4, h5⟩ := h.rd _ _ _ h2
      obtain ⟨h6, h7⟩ := cells_get h1
      exact ⟨z, h3, fun j hj => ⟨_, h7 j hj, fun c hc => h5 j c hc⟩⟩)
    subst hl2
    refine ⟨l, .inr ⟨_, _, rfl, by simp, by omega, fun i z x h1 h2 => ?_⟩, by simp [hc], one_cell ?_⟩
    · have hi : i < l.length := (List.getElem?_eq_some_iff.1 h1).1
      rw [List.getElem?_map, List.getElem?_range hi] at h2
      simp at h2; subst h2
      exact (hq i z h1).1
    · by_cases h0 : l = []
      · subst h0; exact   .sl0 a m .sh (by simp) hm
      · have hpos := h.pos
        have hlen : 0 < l.length := List.length_pos_iff.2 h0
        obtain ⟨z0, hz0⟩ : ∃ z, l[0]? = some z := ⟨_, List.getElem?_eq_getElem hlen⟩
        obtain ⟨v0, hv0, _⟩ := (hq 0 z0 hz0).2 0 hpos
        have hadd : ∀ (a : Addr) (i : Nat) b off, a = ⟨b, off, none⟩ → a.add i = ⟨b, off + i, none⟩ := fun a i b off q => by subst q; unfold Addr.add; split <;> simp_all
        obtain ⟨b, off, rfl⟩ : ∃ b off, a = ⟨b, off, none⟩ := by
          obtain ⟨b, off, s⟩ := a
          cases s with
          | none => exact ⟨b, off, rfl⟩
          | some s =>
            obtain ⟨b', off', q⟩ := plain_addr hv0
            simp [Addr.add] at q
        have hrl : (l.map R).length = l.length := by simp
        rw [← hrl]
        rw [hadd _ _ b off rfl, hadd _ _ b _ rfl] at hv0
        have hblk : b < W.heap.size := World.block_lt_of_cell? W _ hv0
        have hall : ∀ k, k < l.length * P.cellsOf e → ∃ z v, l[k / P.cellsOf e]? = some z ∧ W.cell? ⟨b, off + k, none⟩ = some v ∧ ∀ c, (R z).cells[k % P.cellsOf e]? = some c → Rep W.heap.size gh0 W v c := by
          intro k hk
          have hki : k / P.cellsOf e < l.length := (Nat.div_lt_iff_lt_mul hpos).2 hk
          obtain ⟨z, hz⟩ : ∃ z, l[k / P.cellsOf e]? = some z := ⟨_, List.getElem?_eq_getElem hki⟩
          obtain ⟨v, hv, hr⟩ := (hq _ z hz).2 (k % P.cellsOf e) (Nat.mod_lt _ hpos)
          have : (Addr.add (Addr.add ⟨b, off, none⟩ (k / P.cellsOf e * P.cellsOf e)) (k % P.cellsOf e)) = ⟨b, off + k, none⟩ := by
            rw [hadd _ _ b off rfl, hadd _ _ b _ rfl]
            have := Nat.div_add_mod k (P.cellsOf e)
            rw [Nat.mul_comm] at this
            rw [Nat.add_assoc, this]
          rw [this] at hv
          exact ⟨z, v, hz, hv, hr⟩
        refine .sl b off m (P.cellsOf e) .sh (l.map R) (fun k => (W.cell? ⟨b, off + k, none⟩).getD undef) (by simp) hpos (by simpa using hl) hm ?_ ?_ ?_
        · intro x hx
          obtain ⟨z, _, rfl⟩ := List.mem_map.1 hx
          exact h.cells z
        · intro k hk
          obtain ⟨z, v, h1, h2, h3⟩ := hall k (by simpa using hk)
          exact ⟨by rw [h2]; rfl, .inl hblk⟩
        · intro i j c hc'
          obtain ⟨z, hz, hzc⟩ := flat_at l i j c hc'
          have hi : i < l.length := (List.getElem?_eq_some_iff.1 hz).1
          have hj : j < P.cellsOf e := by rw [← (h.cells z).1]; exact (List.getElem?_eq_some_iff.1 hzc).1
          obtain ⟨z', v, h1, h2, h3⟩ := hall (i * P.cellsOf e + j) (by
            have : (i + 1) * P.cellsOf e ≤ l.length * P.cellsOf e := Nat.mul_le_mul_right _ hi
            rw [Nat.add_mul] at this; omega)
          have e1 : (i * P.cellsOf e + j) / P.cellsOf e = i := by rw [Nat.mul_comm, Nat.mul_add_div hpos, Nat.div_eq_of_lt hj]; rfl
          have e2 : (i * P.cellsOf e + j) % P.cellsOf e = j := by rw [Nat.mul_comm, Nat.mul_add_mod, Nat.mod_eq_of_lt hj]
          rw [e1, hz] at h1; injection h1 with h1; subst h1
          rw [e2] at h3
          simp only [h2, Option.getD_some]
          exact h3 c hzc

def oneT (d : Option TypeDesc) : Bool := match d with
  | some (.int _) => true
  | some .string => true
  | some .bool => true
  | some (.slice _) => true
  | _ => false
theorem val_one {r : Reach} {b0 : Nat} {v : Value} (hk : oneT (P.underlying t) = true) (h : Value.okWide P W r b0 t v) : v.cells = #[v] := by
  unfold Value.okWide at h
  cases hd : P.underlying t with
  | none => rw [hd] at hk; cases hk
  | some d =>
    rw [hd] at hk h
    cases d <;> simp only [oneT, Bool.false_eq_true] at hk
    all_goals
      simp only at h
      unfold Cell.okWide at h
      rw [hd] at h
      try unfold Cell.ok at h
      try rw [hd] at h
      cases v <;> first | rfl | (simp at h)

theorem Reads.arg1 {R : α → AV} {Q : α → DataW H → Prop} (h : Reads enc P W t R Q) (hR : ∀ a, (R a).cells = [R a]) (hk : oneT (P.underlying t) = true) {r : Reach} {b0 : Nat} {v : Value} {d : DataW H} {p : List MemPlace}
    (hv : Value.okWide P W r b0 t v) (ht : DataW.Trod enc P W 0 (fun _ => true) true t v d p) : ∃ a, Q a d ∧ Rep W.heap.size gh0 W v (R a) ∧ pers (R a) = true ∧ quiet (R a) = true := by
  obtain ⟨fuel, hf⟩ := ht
  rw [val_one hk hv] at hf
  obtain ⟨a, h1, h2, h3⟩ := h.rd _ _ _ hf
  have h4 := (h.cells a).2 (R a) (by rw [hR]; simp)
  simp only [plain, Bool.and_eq_true] at h4
  refine ⟨a, h1, by have := h3 0 (R a) (by rw [hR]; rfl); simpa using this, ?_, h4.2⟩
  have h5 := h4.1
  cases hq : R a <;> rw [hq] at h5 <;> first | rfl | simp [cell1] at h5
theorem Reads.argS {R : α → AV} {Q : α → DataW H → Prop} (h : Reads enc P W t R Q) (hR : ∀ a, ∃ cs, R a = .agg cs) {fs : Array Field} (hk : P.underlying t = some (.struct fs)) {r : Reach} {b0 : Nat} {v : Value} {d : DataW H} {p : List MemPlace}
    (hv : Value.okWide P W r b0 t v) (ht : DataW.Trod enc P W 0 (fun _ => true) true t v d p) : ∃ a, Q a d ∧ Rep W.heap.size gh0 W v (R a) ∧ pers (R a) = true ∧ quiet (R a) = true := by
  obtain ⟨fuel, hf⟩ := ht
  unfold Value.okWide at hv
  rw [hk] at hv
  obtain ⟨vs, rfl, _, _⟩ := hv
  obtain ⟨a, h1, h2, h3⟩ := h.rd _ _ _ hf
  obtain ⟨cs, hcs⟩ := hR a
  have h4 := h.cells a
  rw [hcs] at h4 h3
  simp only [Value.cells, AV.cells] at h2 h3 h4
  refine ⟨a, h1, ?_⟩
  rw [hcs]
  refine ⟨.agg vs cs (by rw [h4.1, ← h2]; simp) h4.2 fun j c hc => ?_, rfl, rfl⟩
  have := h3 j c hc
  simpa [Array.getD_eq_getD_getElem?, List.getD] using this
/-- behind the call the arguments read as they did -/
theorem trodAll_keep (hl : laidOutB P = true) {W' : World} (hb : Below W.heap.size W W') : ∀ {ts : List TypeId} {vs : List Value} {ds : List (DataW H)} {ps : List MemPlace}, (∀ t ∈ ts, P.readableRec t = true ∧ t < P.types.size) →
    DataW.TrodAll enc P W 0 (fun _ => true) true ts vs ds ps → (∀ x ∈ ps, x.block < W.heap.size) → DataW.TrodAll enc P W' 0 (fun b => decide (b < W.heap.size)) true ts vs ds ps
  | [], [], [], ps, _, h, _ => h
  | t :: ts, [], [], ps, _, h, _ => by simp [DataW.TrodAll] at h
  | [], v :: vs, [], ps, _, h, _ => by simp [DataW.TrodAll] at h
  | [], [], d :: ds, ps, _, h, _ => by simp [DataW.TrodAll] at h
  | t :: ts, v :: vs, [], ps, _, h, _ => by simp [DataW.TrodAll] at h
  | t :: ts, [], d :: ds, ps, _, h, _ => by simp [DataW.TrodAll] at h
  | [], v :: vs, d :: ds, ps, _, h, _ => by simp [DataW.TrodAll] at h
  | t :: ts, v :: vs, d :: ds, ps, ht, h, hp => by
    obtain ⟨p, q, h1, h2, rfl⟩ := h
    refine ⟨p, q, Below.trod hl (ht t (by simp)).1 (ht t (by simp)).2 h1 hb fun x hx => hp x (List.mem_append_left _ hx), ?_, rfl⟩
    exact trodAll_keep hl hb (fun t h => ht t (List.mem_cons_of_mem _ h)) h2 fun x hx => hp x (List.mem_append_right _ hx)
theorem laidVars_mem {w : World} : ∀ {laid : List (String × DataW Unit)} {ps : List MemPlace} {n : String} {d : DataW Unit}, DataW.LaidVars P w laid ps → (n, d) ∈ laid →
    ∃ g t cs fuel p, P.globalNamed n = some g ∧ (P.globals[g]?).map (·.type) = some t ∧ w.var? P n = some cs ∧ DataW.trod (fun _ => ()) P w 0 (fun _ => true) false fuel t cs.toList = some (d, p)
  | [], _, _, _, _, hm => by cases hm
  | x :: r, ps, n, d, h, hm => by
    obtain ⟨g, t, cs, fuel, p, q, h1, h2, h3, h4, h5, _⟩ := h
    rcases List.mem_cons.1 hm with e | hm
    · subst e; exact ⟨g, t, cs, fuel, p, h1, h2, h3, h4⟩
    · exact laidVars_mem h5 hm
theorem tabIs_of_mem {name : String} {k : IntKind} {zs : List Int} {laid : List (String × DataW Unit)} {g : Nat} {n : Nat} (hm : (name, Lib.tabData k zs) ∈ laid)
    (hg : P.globalNamed name = some g) (hty : (P.globals[g]?).map (·.type) = some t) (ht : P.underlying t = some (.array n e)) (he : P.underlying e = some (.int k)) (hce : P.cellsOf e = 1) (hct : P.cellsOf t = n)
    (h : laidMet P laid W) : Lib.TabIs P W name k zs := by
  obtain ⟨ps, hl, _⟩ := h
  obtain ⟨g', t', cs, fuel, p, hg', ht', hvar, hd⟩ := laidVars_mem hl hm
  obtain rfl := Option.some.inj (hg.symm.trans hg')
  obtain rfl := Option.some.inj (hty.symm.trans ht')
  unfold Lib.TabIs
  rw [hvar, ← Lib.cells_of_tab ht he hce hct hd]
end
end Go.AI
end
section
/- The frame of TlogChecks: from the evaluation to the given statement. -/
namespace Go.Proofs.YtkbghmnjpfdclaaDoor.tlogChecks
open Go Go.AI Go.ChangeShapes Go.WideShapes Go.ChangeAt Go.RowKit
set_option linter.unusedVariables false

theorem own : ownKnob Tryd.prog.godebug = none := by kernel_rfl
theorem mixed : Tryd.prog.follows .mixedOrders = true := by kernel_rfl
theorem laidOut : laidOutB Tryd.prog = true := by kernel_rfl

theorem walk (a0 : List (List UInt8)) (a1 : Int) (a2 : Int) (a3 : Int) (a4 : List UInt8) (a5 : List UInt8) (v0 v1 v2 v3 v4 v5 : Value) (W : World) (hl : Go.Proofs.Tryd.Ai.Laid W) (r0 : Rep W.heap.size gh0 W v0 (.sl .sh (a0.map fun l => .sl .sh (l.map .u8)))) (r1 : Rep W.heap.size gh0 W v1 (.int .i64 a1)) (r2 : Rep W.heap.size gh0 W v2 (.int .i64 a2)) (r3 : Rep W.heap.size gh0 W v3 (.int .i64 a3)) (r4 : Rep W.heap.size gh0 W v4 (.sl .sh (a4.map .u8))) (r5 : Rep W.heap.size gh0 W v5 (.sl .sh (a5.map .u8)))
    (he : Go.Proofs.Tryd.Ai.ev 5 [.sl .sh (a0.map fun l => .sl .sh (l.map .u8)), .int .i64 a1, .int .i64 a2, .int .i64 a3, .sl .sh (a4.map .u8), .sl .sh (a5.map .u8)] [] = some (.bool true, [])) :
    Calls Tryd.prog 5 #[v0, v1, v2, v3, v4, v5] W fun e w' => e = .returned (.bool true) ∧ Below W.heap.size W w' :=
  Go.AI.top (s' := []) mixed rfl (Go.Proofs.Tryd.Ai.T_ok hl) (by rfl)
    (fun j c h => by
      match j, h with
      | 0, h => simp at h; subst h; exact ⟨r0, rfl, rfl⟩
      | 1, h => simp at h; subst h; exact ⟨r1, rfl, rfl⟩
      | 2, h => simp at h; subst h; exact ⟨r2, rfl, rfl⟩
      | 3, h => simp at h; subst h; exact ⟨r3, rfl, rfl⟩
      | 4, h => simp at h; subst h; exact ⟨r4, rfl, rfl⟩
      | 5, h => simp at h; subst h; exact ⟨r5, rfl, rfl⟩
      | j + 6, h => simp at h)
    he

/-- the table of powers, as the row lays it -/
theorem laid_of {W : World} (hL : laidMet Tryd.prog Rows.tlogChecksRow.laid W) : Go.Proofs.Tryd.Ai.Laid W :=
  tabIs_of_mem (g := 1) (t := 168) (e := 121) (n := 20) (by
    have : ("internal/strconv.uint64pow10", Rows.laid_internal_strconv_uint64pow10) ∈ Rows.tlogChecksRow.laid := by simp [Rows.tlogChecksRow]
    have e : (Rows.laid_internal_strconv_uint64pow10 : DataW Unit) = Lib.tabData .u64 Lib.pow10Tab := by kernel_rfl
    rw [e] at this; exact this) (by kernel_rfl) (by kernel_rfl) Tryd.underlying168 Tryd.underlying121 (by kernel_rfl) (by kernel_rfl) hL

theorem readable : ∀ t ∈ Tryd.f5.params.toList, Tryd.prog.readableRec t = true ∧ t < Tryd.prog.types.size := by
  rw [Tryd.params5]
  intro t ht
  simp only [List.mem_cons, List.mem_nil_iff, or_false] at ht
  rcases ht with rfl | rfl | rfl | rfl | rfl | rfl <;> exact ⟨by kernel_rfl, of_decide_eq_true (by kernel_rfl)⟩

set_option maxRecDepth 100000 in
theorem contract (H : Type) (enc : TypeId × Value → H) (W : World) (base : Nat) (args : Array Value) (ds gs : List (DataW H)) (before : List MemPlace)
    (hval : ∀ (j : Nat) t v, Tryd.f5.params[j]? = some t → args[j]? = some v → Value.okWide Tryd.prog W .any base t v)
    (hW : DataW.Whole enc Tryd.prog Tryd.f5.params.toList Rows.tlogChecksSpec.vars false W args.toList ds gs before) (hl : Go.Proofs.Tryd.Ai.Laid W) :
    Calls Tryd.prog 5 args W fun e W' => ∃ v, e = .returned v ∧ Rows.tlogChecksSpec.post enc Tryd.prog Tryd.f5 false true false false W args v W' := by
  have hW' := hW
  obtain ⟨p, q, hA0, hV, rfl, hfz, hnd⟩ := hW
  have hA : DataW.TrodAll enc Tryd.prog W 0 (fun _ => true) true Tryd.f5.params.toList args.toList ds p := hA0
  have hAk := hA
  rw [Tryd.params5] at hA hval
  obtain ⟨v0, vs0, d0, ds0, p0, q0, hargs0, rfl, rfl, h0, r0⟩ := trodAll_cons hA
  obtain ⟨v1, vs1, d1, ds1, p1, q1, hargs1, rfl, rfl, h1, r1⟩ := trodAll_cons r0
  obtain ⟨v2, vs2, d2, ds2, p2, q2, hargs2, rfl, rfl, h2, r2⟩ := trodAll_cons r1
  obtain ⟨v3, vs3, d3, ds3, p3, q3, hargs3, rfl, rfl, h3, r3⟩ := trodAll_cons r2
  obtain ⟨v4, vs4, d4, ds4, p4, q4, hargs4, rfl, rfl, h4, r4⟩ := trodAll_cons r3
  obtain ⟨v5, vs5, d5, ds5, p5, q5, hargs5, rfl, rfl, h5, r5⟩ := trodAll_cons r4
  obtain ⟨e1, e2, e3⟩ := trodAll_nil r5
  obtain rfl : args = #[v0, v1, v2, v3, v4, v5] := by cases args; simp_all
  subst e2 e3
  obtain ⟨rfl, rfl⟩ := trodVars_none hV
  obtain ⟨a0, Q0, R0, _⟩ := (Reads.slice (Reads.slice (Reads.u8 Tryd.underlying5 (by kernel_rfl)) Tryd.underlying36 (by kernel_rfl)) Tryd.underlying31 (by kernel_rfl)).arg1 (enc := enc) (W := W) (fun _ => rfl) (by kernel_rfl) (hval 0 31 v0 rfl rfl) h0
  obtain ⟨a1, Q1, R1, _⟩ := (Reads.int Tryd.underlying3 (by kernel_rfl)).arg1 (enc := enc) (W := W) (fun _ => rfl) (by kernel_rfl) (hval 1 3 v1 rfl rfl) h1
  obtain ⟨a2, Q2, R2, _⟩ := (Reads.int Tryd.underlying3 (by kernel_rfl)).arg1 (enc := enc) (W := W) (fun _ => rfl) (by kernel_rfl) (hval 2 3 v2 rfl rfl) h2
  obtain ⟨a3, Q3, R3, _⟩ := (Reads.int Tryd.underlying3 (by kernel_rfl)).arg1 (enc := enc) (W := W) (fun _ => rfl) (by kernel_rfl) (hval 3 3 v3 rfl rfl) h3
  obtain ⟨a4, Q4, R4, _⟩ := (Reads.slice (Reads.u8 Tryd.underlying5 (by kernel_rfl)) Tryd.underlying36 (by kernel_rfl)).arg1 (enc := enc) (W := W) (fun _ => rfl) (by kernel_rfl) (hval 4 36 v4 rfl rfl) h4
  obtain ⟨a5, Q5, R5, _⟩ := (Reads.slice (Reads.u8 Tryd.underlying5 (by kernel_rfl)) Tryd.underlying36 (by kernel_rfl)).arg1 (enc := enc) (W := W) (fun _ => rfl) (by kernel_rfl) (hval 5 36 v5 rfl rfl) h5
  have hlt : ∀ x ∈ (p0 ++ p1 ++ p2 ++ p3 ++ p4 ++ p5 : List MemPlace), True := fun _ _ => trivial
  refine (walk a0 a1 a2 a3 a4 a5 v0 v1 v2 v3 v4 v5 W hl R0 R1 R2 R3 R4 R5 (by have := Go.Proofs.Tryd.Ai.checks_eq a0 a1 a2 a3 a4 a5 []; exact this)).mono fun e W' ⟨he, bel⟩ => ?_
  subst he
  exact ⟨_, rfl, _, _, _, [], _, [], hW', trodAll_mk1 (shut_bool Tryd.underlying4 _), trodAll_keep laidOut bel readable hAk (fun x hx => by simpa using hW'.lt x (by simpa using hx)), rfl, bel.frame _, fun h => by cases h⟩

noncomputable def laidWorld (os : Os) : World := World.laidAll Tryd.prog os Rows.tlogChecksRow.laid
theorem laid_met (os : Os) : laidMet Tryd.prog Rows.tlogChecksRow.laid ((laidWorld os).forCall (fun _ _ => 0) ⟨#[], #[.slice none 0 0, .int .i64 0, .int .i64 0, .int .i64 0, .slice none 0 0, .slice none 0 0], []⟩).memory :=
  laidMet_laidAll _ (by kernel_rfl) (by kernel_rfl)
theorem reads (os : Os) {H : Type} (enc : TypeId × Value → H) : ∃ places, DataW.whole enc Tryd.prog ((laidWorld os).forCall (fun _ _ => 0) ⟨#[], #[.slice none 0 0, .int .i64 0, .int .i64 0, .int .i64 0, .slice none 0 0, .slice none 0 0], []⟩).memory Tryd.f5.params.toList Rows.tlogChecksSpec.vars false (#[.slice none 0 0, .int .i64 0, .int .i64 0, .int .i64 0, .slice none 0 0, .slice none 0 0] : Array Value).toList 8 = some ([.nil, .lit (.int .i64 0), .lit (.int .i64 0), .lit (.int .i64 0), .nil, .nil], [], places) :=
  ⟨[], by kernel_rfl⟩
theorem witness (os : Os) {H : Type} (enc : TypeId × Value → H) : ∃ (w : World) (tape : Tape) (i : Input), w.os = os ∧ (w.forCall tape i).Shaped Tryd.checked.prog ∧ i.vars = [] ∧ Input.okWide Tryd.checked.prog (w.forCall tape i) .any w.heap.size 5 i ∧
    (OpenSpec.ofChange Rows.tlogChecksSpec).preRow enc Tryd.checked.prog Tryd.f5 Rows.tlogChecksRow.domain false Rows.tlogChecksRow.laid (w.forCall tape i).memory i.args ∧ ({} : Assume).holds Tryd.checked.prog (lone (Frame.enter Tryd.checked.prog 5 i.args .normal) [] (w.forCall tape i)) := by
  obtain ⟨places, hx⟩ := reads os enc
  have hok : Input.okWideB Tryd.checked.prog ((laidWorld os).forCall (fun _ _ => 0) ⟨#[], #[.slice none 0 0, .int .i64 0, .int .i64 0, .int .i64 0, .slice none 0 0, .slice none 0 0], []⟩) 5 ⟨#[], #[.slice none 0 0, .int .i64 0, .int .i64 0, .int .i64 0, .slice none 0 0, .slice none 0 0], []⟩ = true := by kernel_rfl
  exact ⟨laidWorld os, fun _ _ => 0, ⟨#[], #[.slice none 0 0, .int .i64 0, .int .i64 0, .int .i64 0, .slice none 0 0, .slice none 0 0], []⟩, World.laidAll_os _ _ _, World.shaped_of_ZipB (by kernel_rfl) (by kernel_rfl), (Input.okWide_of_okWideB (base := 0) hok).1, (Input.okWide_of_okWideB hok).2,
    OpenSpec.preRow_of_cond 8 hx (by kernel_rfl) (fun k hk => by cases hk) (by kernel_rfl) (laid_met os), by
    simp only [Assume.holds]
    exact ⟨by simp, by simp, fun _ => Modest.zero, by simp, by simp⟩⟩

set_option maxRecDepth 100000 in
theorem lifted (os : Os) (started : os.Started) (H : Type) (enc : TypeId × Value → H) (F : Stop.Interp) :
    ReturnsInHanded {} Tryd.checked os 5 .any ((OpenSpec.ofChange Rows.tlogChecksSpec).preRow enc Tryd.prog Tryd.f5 Rows.tlogChecksRow.domain false Rows.tlogChecksRow.laid) (((OpenSpec.ofChange Rows.tlogChecksSpec).at F).post enc Tryd.prog Tryd.f5 false true false false) := by
  refine returnsInHanded_of_row (C := Tryd.checked) (s := (OpenSpec.ofChange Rows.tlogChecksSpec)) own started (by kernel_rfl) Tryd.func5 (witness os enc) ?_
  intro W base args ds gs before hval hW _ hcond _ hL _ _
  exact contract H enc W base args ds gs before hval hW (laid_of (by rw [← MakeChecks.laidMetH_plain _ _ _ (by kernel_rfl)]; exact hL))

theorem said : Rows.TlogChecksSaid :=
  OpenClaim.holds_of_cond 5 Tryd.f5 rfl rfl rfl rfl rfl rfl rfl ⟨rfl, rfl, rfl, rfl, rfl⟩ rfl rfl rfl rfl rfl (by kernel_rfl) Tryd.func5 (by kernel_rfl)
    (of_decide_eq_true (by kernel_rfl)) (by unfold Func.isWrapper; first | (rw [if_pos (by decide +kernel)]; kernel_rfl) | (rw [if_neg (by decide +kernel)]; exact ⟨rfl, rfl⟩))
    (fun os started H enc _ F => by rw [OpenClaim.pre_eq_preRow]; exact lifted os started H enc F)

theorem plain (f : FuncId) (fn : Func) (hf : Tryd.pinned.checked.prog.funcNamed "mews/mewslaw7.TlogChecks" = some f) (hfn : Tryd.pinned.checked.prog.funcs[f]? = some fn) :
    true = Tryd.pinned.checked.prog.looks [] ∧ ∀ (j : Nat) t, fn.params[j]? = some t → Tryd.pinned.checked.prog.wantsStandIn t = false := by
  obtain rfl : f = 5 := Option.some.inj ((show Tryd.prog.funcNamed "mews/mewslaw7.TlogChecks" = some 5 by kernel_rfl).symm.trans hf) |>.symm
  obtain rfl : fn = Tryd.f5 := (Option.some.inj (Tryd.func5.symm.trans hfn)).symm
  refine ⟨by kernel_rfl, fun j t ht => ?_⟩
  have hm : t ∈ Tryd.f5.params.toList := Array.mem_toList_iff.2 (Array.mem_of_getElem? ht)
  rw [Tryd.params5] at hm
  simp only [List.mem_cons, List.mem_nil_iff, or_false] at hm
  rcases hm with rfl | rfl | rfl | rfl | rfl | rfl
  · exact (show Tryd.prog.wantsStandIn 31 = false by kernel_rfl)
  · exact (show Tryd.prog.wantsStandIn 3 = false by kernel_rfl)
  · exact (show Tryd.prog.wantsStandIn 3 = false by kernel_rfl)
  · exact (show Tryd.prog.wantsStandIn 3 = false by kernel_rfl)
  · exact (show Tryd.prog.wantsStandIn 36 = false by kernel_rfl)
  · exact (show Tryd.prog.wantsStandIn 36 = false by kernel_rfl)

/-- the card -/
theorem card : Rows.TlogChecksCardSaid :=
  Claim7.holds_tied_plain_at .later [] _ _ _ _ said (fun _ h => by cases h) (by kernel_rfl) (fun _ h => by cases h) tlogChecks_row_tie rfl ⟨rfl, rfl⟩ (by kernel_rfl) rfl plain (by kernel_rfl)
end Go.Proofs.YtkbghmnjpfdclaaDoor.tlogChecks
end
