/- Part 6 of a proof: a Go function is evaluated on abstract values (texts Sha3 .. First3); no conditions beyond those of each theorem. -/
import Derived.Test.YtmikahmnomfacaaDoorAi5
set_option linter.all false
set_option linter.unusedVariables false
set_option linter.unusedSimpArgs false
set_option linter.unnecessarySimpa false
section
/- SHA-256: a block, walked. -/
namespace Go.Proofs.Tryd.Ai
open Go Go.AI Go.Proofs
set_option maxHeartbeats 4000000

structure V8 where
  a : Int
  b : Int
  c : Int
  d : Int
  e : Int
  f : Int
  g : Int
  h : Int
def V8.l (x : V8) : List Int := [x.a, x.b, x.c, x.d, x.e, x.f, x.g, x.h]
def big1 (e : Int) : Int := wxor (wxor (rotr e 6) (rotr e 11)) (rotr e 25)
def big0 (a : Int) : Int := wxor (wxor (rotr a 2) (rotr a 13)) (rotr a 22)
def pick3 (e f g : Int) : Int := wxor (wand e f) (wand (wnot e) g)
def most3 (a b c : Int) : Int := wxor (wxor (wand a b) (wand a c)) (wand b c)
def tmp1 (x : V8) (k w : Int) : Int := wadd (wadd (wadd (wadd x.h (big1 x.e)) (pick3 x.e x.f x.g)) k) w
def roundV (x : V8) (k w : Int) : V8 :=
  ⟨wadd (wadd (tmp1 x k w) (big0 x.a)) (most3 x.a x.b x.c), x.a, x.b, x.c, wadd x.d (tmp1 x k w), x.e, x.f, x.g⟩
def roundsV (s : V8) (K W : List Int) : Nat → V8
  | 0 => s
  | n + 1 => roundV (roundsV s K W n) (K.getD n 0) (W.getD n 0)
def addV (x s : V8) : V8 := ⟨wadd x.a s.a, wadd x.b s.b, wadd x.c s.c, wadd x.d s.d, wadd x.e s.e, wadd x.f s.f, wadd x.g s.g, wadd x.h s.h⟩
def blockV (K : List Int) (s : V8) (b : List UInt8) : V8 := addV (roundsV s K (sched b 64) 64) s

/-- the cells while the sums are made -/
def addC (x s : V8) (i : Nat) : List AV := (((addV x s).l.take i) ++ (x.l.drop i)).map (.int .u32)
theorem addC_len (x s : V8) (i : Nat) : (addC x s i).length = 8 := by
  simp [addC, V8.l]; omega
theorem addC_zero (x s : V8) : addC x s 0 = x.l.map (.int .u32) := rfl
theorem addC_end (x s : V8) : addC x s 8 = (addV x s).l.map (.int .u32) := rfl
theorem addC_step (x s : V8) (i : Nat) (h : i < 8) : ∃ y z, (addC x s i)[i]? = some (.int .u32 y) ∧ (s.l.map (AV.int .u32))[i]? = some (.int .u32 z) ∧
    (addC x s i).take i ++ .int .u32 (wadd y z) :: (addC x s i).drop (i + 1) = addC x s (i + 1) := by
  match i, h with
  | 0, _ => exact ⟨x.a, s.a, rfl, rfl, rfl⟩
  | 1, _ => exact ⟨x.b, s.b, rfl, rfl, rfl⟩
  | 2, _ => exact ⟨x.c, s.c, rfl, rfl, rfl⟩
  | 3, _ => exact ⟨x.d, s.d, rfl, rfl, rfl⟩
  | 4, _ => exact ⟨x.e, s.e, rfl, rfl, rfl⟩
  | 5, _ => exact ⟨x.f, s.f, rfl, rfl, rfl⟩
  | 6, _ => exact ⟨x.g, s.g, rfl, rfl, rfl⟩
  | 7, _ => exact ⟨x.h, s.h, rfl, rfl, rfl⟩

theorem list_get (W : List Int) (n m : Nat) (hw : W.length = m) (h : n < m) : (W.map (AV.int .u32))[n]? = some (.int .u32 (W.getD n 0)) := by
  have hj : n < W.length := by omega
  rw [List.getElem?_map, List.getElem?_eq_getElem hj]
  simp [List.getD, hj]

/-- the cells of eight words -/
def V8.cs (x : V8) : List AV := [.int .u32 x.a, .int .u32 x.b, .int .u32 x.c, .int .u32 x.d, .int .u32 x.e, .int .u32 x.f, .int .u32 x.g, .int .u32 x.h]
theorem V8.cs_eq (x : V8) : x.l.map (.int .u32) = x.cs := rfl

theorem rights (σ : List (List AV)) (x : Int) : ev 57 [.int .u32 x, .int .i64 6] σ = some (.int .u32 (rotr x 6), σ) ∧ ev 57 [.int .u32 x, .int .i64 11] σ = some (.int .u32 (rotr x 11), σ) ∧
    ev 57 [.int .u32 x, .int .i64 25] σ = some (.int .u32 (rotr x 25), σ) ∧ ev 57 [.int .u32 x, .int .i64 2] σ = some (.int .u32 (rotr x 2), σ) ∧
    ev 57 [.int .u32 x, .int .i64 13] σ = some (.int .u32 (rotr x 13), σ) ∧ ev 57 [.int .u32 x, .int .i64 22] σ = some (.int .u32 (rotr x 22), σ) :=
  ⟨right_eq x 6 (by omega) σ, right_eq x 11 (by omega) σ, right_eq x 25 (by omega) σ, right_eq x 2 (by omega) σ, right_eq x 13 (by omega) σ, right_eq x 22 (by omega) σ⟩

theorem block_eq (s : V8) (b : List UInt8) (hb : b.length = 64) (o : Own) (K : List Int) (hK : K.length = 64) (c : Nat) (sh : Option (TypeId × Nat)) (σ) (hc : σ[c]? = some (K.map (.int .u32))) :
    ev 41 [.agg (s.l.map (.int .u32)), .sl o (b.map .u8), .gp c 0 sh] σ = some (.agg ((blockV K s b).l.map (.int .u32)), σ) := by
  refine EV_post rfl Tryd.func41 rfl (by simp [Tryd.ntmps41]) (by kernel_rfl) (by kernel_rfl) ?_
  have hs := schedule_eq b hb .sh σ
  obtain ⟨W, hW⟩ : ∃ W, sched b 64 = W := ⟨_, rfl⟩
  have hWl : W.length = 64 := by rw [← hW, sched_len]
  have hbv : blockV K s b = addV (roundsV s K W 64) s := by unfold blockV; rw [hW]
  rw [hW] at hs
  rw [hbv]
  have hs8 : (s.l.map (AV.int .u32)) = s.cs := rfl
  have hWc : (W.map (AV.int .u32)).length = 64 := by simpa using hWl
  obtain ⟨Wc, hWc2⟩ : ∃ Wc, W.map (AV.int .u32) = Wc := ⟨_, rfl⟩
  rw [hWc2] at hs hWc
  have hWn : ∀ n, n < 64 → Wc[n]? = some (.int .u32 (W.getD n 0)) := fun n hn => by rw [← hWc2]; exact list_get W n 64 hWl hn
  have hKn : ∀ n, n < 64 → (K.map (AV.int .u32))[n]? = some (.int .u32 (K.getD n 0)) := fun n hn => list_get K n 64 hK hn
  obtain ⟨Kc, hKc2⟩ : ∃ Kc, K.map (AV.int .u32) = Kc := ⟨_, rfl⟩
  rw [hKc2] at hc hKn
  have hdem : s.cs.map dem = s.cs := rfl
  have hcsl : s.cs.length = 8 := rfl
  have htk : s.cs.take 8 = s.cs := rfl
  have hdr : s.cs.drop 8 = [] := rfl
  have hWd : Wc.map dem = Wc := by rw [← hWc2]; exact map_dem_int
  have hWt : Wc.take 64 = Wc := List.take_of_length_le (by omega)
  clear hWc2 hKc2 hW hbv hWl
  rw [hs8]
  simp (maxSteps := 4000000) [hs, hdem, hcsl, htk, hdr, hWd, hWt, hWc]
  refine Post_loop (I := fun n : Nat => ⟨[(2, .gp c 0 sh), (3, .lp 3 0), (6, .lp 6 0), (7, .lp 7 0), (8, .lp 8 0), (19, .int .i64 n)], [(3, s.cs), (6, List.replicate 8 (.int .u32 0)), (7, Wc), (8, (roundsV s K W n).cs)], σ⟩) (Pr := fun n => n ≤ 64) (μ := fun n => 64 - n) (a := 0) (by simp [roundsV]) (by omega) ?_
  intro n hn
  obtain ⟨x, hx⟩ : ∃ x, roundsV s K W n = x := ⟨_, rfl⟩
  have hx1 : n < 64 → roundsV s K W (n + 1) = roundV x (K.getD n 0) (W.getD n 0) := fun _ => by rw [roundsV, hx]
  obtain ⟨k, hk⟩ : ∃ k, K.getD n 0 = k := ⟨_, rfl⟩
  obtain ⟨w, hw⟩ : ∃ w, W.getD n 0 = w := ⟨_, rfl⟩
  have hWn' := hWn n
  have hKn' := hKn n
  rw [hw] at hWn' hx1
  rw [hk] at hKn' hx1
  clear hWn hKn hk hw
  by_cases hlt : n < 64
  · have g1 := hWn' hlt
    have g2 := hKn' hlt
    have hstep := hx1 hlt
    clear hWn' hKn' hx1 hs
    have q1 : (n : Int) < 64 := by omega
    have q2 : n ≤ 63 := by omega
    have w1 : IntKind.i64.wrap ((n : Int) + 1) = (n : Int) + 1 := wrap64 (by omega)
    have r1 := fun x => (rights σ x).1
    have r2 := fun x => (rights σ x).2.1
    have r3 := fun x => (rights σ x).2.2.1
    have r4 := fun x => (rights σ x).2.2.2.1
    have r5 := fun x => (rights σ x).2.2.2.2.1
    have r6 := fun x => (rights σ x).2.2.2.2.2
    obtain ⟨Sc, hSc⟩ : ∃ Sc, s.cs = Sc := ⟨_, rfl⟩
    have hxc : (roundsV s K W n).cs = [.int .u32 x.a, .int .u32 x.b, .int .u32 x.c, .int .u32 x.d, .int .u32 x.e, .int .u32 x.f, .int .u32 x.g, .int .u32 x.h] := by rw [hx]; rfl
    have hmax : IntKind.u32.max = 4294967295 := rfl
    have hnot : ∀ a, bits .xor .u32 4294967295 a = wnot a := fun a => rfl
    have hsg : IntKind.u32.signed = false := rfl
    simp only [hxc, hSc]
    simp (maxSteps := 8000000) [-getElem?_pos, List.getElem?_cons_zero, q1, q2, hlt, g1, g2, hc, hWc, w1, r1, r2, r3, r4, r5, r6, hnot, hsg, hmax, xor_fold, and_fold, add_fold]
    exact ⟨n + 1, by omega, by omega, by simp, by rw [hstep]; rfl⟩
  · have hn64 : n = 64 := by omega
    subst hn64
    clear hWn' hKn' hx1 hs
    rw [hx]
    obtain ⟨Sc, hSc⟩ : ∃ Sc, s.cs = Sc := ⟨_, rfl⟩
    have hScl : Sc.length = 8 := by rw [← hSc]; rfl
    have hz := addC_zero x s
    rw [V8.cs_eq] at hz
    simp only [hSc]
    simp (maxSteps := 4000000)
    refine Post_loop (I := fun i : Nat => ⟨[(3, .lp 3 0), (6, .lp 6 0), (8, .lp 8 0), (112, .int .i64 i)], [(3, Sc), (6, List.replicate 8 (.int .u32 0)), (8, addC x s i)], σ⟩) (Pr := fun i => i ≤ 8) (μ := fun i => 8 - i) (a := 0) (by simp [hz]) (by omega) ?_
    intro i hi
    have hl8 := addC_len x s i
    by_cases hi8 : i < 8
    · obtain ⟨y, z, e1, e2, e3⟩ := addC_step x s i hi8
      rw [hs8, hSc] at e2
      have q1 : (i : Int) < 8 := by omega
      have q2 : i ≤ 7 := by omega
      have w1 : IntKind.i64.wrap ((i : Int) + 1) = (i : Int) + 1 := wrap64 (by omega)
      simp (maxSteps := 4000000) [-getElem?_pos, List.getElem?_cons_zero, q1, q2, hi8, e1, e2, hl8, hScl, w1, add_fold, e3]
      exact ⟨i + 1, by omega, by omega, by simp, rfl⟩
    · have hi8 : i = 8 := by omega
      subst hi8
      obtain ⟨R, hR⟩ : ∃ R, addC x s 8 = R := ⟨_, rfl⟩
      have hRe : (addV x s).l.map (AV.int .u32) = R := by rw [← addC_end, hR]
      have hRd : R.map dem = R := by rw [← hRe]; exact map_dem_int
      rw [hR] at hl8
      have hRt : R.take 8 = R := List.take_of_length_le (by omega)
      have hRdr : R.drop 8 = [] := List.drop_eq_nil_of_le (by omega)
      simp only [hR, hRe]
      simp (maxSteps := 4000000) [hl8, hRd, hRt, hRdr, Tryd.results41]
end Go.Proofs.Tryd.Ai
end
section
/- SHA-256, walked. -/
namespace Go.Proofs.Tryd.Ai
open Go Go.AI Go.Proofs
set_option maxHeartbeats 4000000

def kConst : List Int := [1116352408, 1899447441, 3049323471, 3921009573, 961987163, 1508970993, 2453635748, 2870763221,
  3624381080, 310598401, 607225278, 1426881987, 1925078388, 2162078206, 2614888103, 3248222580,
  3835390401, 4022224774, 264347078, 604807628, 770255983, 1249150122, 1555081692, 1996064986,
  2554220882, 2821834349, 2952996808, 3210313671, 3336571891, 3584528711, 113926993, 338241895,
  666307205, 773529912, 1294757372, 1396182291, 1695183700, 1986661051, 2177026350, 2456956037,
  2730485921, 2820302411, 3259730800, 3345764771, 3516065817, 3600352804, 4094571909, 275423344,
  430227734, 506948616, 659060556, 883997877, 958139571, 1322822218, 1537002063, 1747873779,
  1955562222, 2024104815, 2227730452, 2361852424, 2428436474, 2756734187, 3204031479, 3329325298]
def vInit : V8 := ⟨1779033703, 3144134277, 1013904242, 2773480762, 1359893119, 2600822924, 528734635, 1541459225⟩
def blocksV (s : V8) (b : List UInt8) : Nat → V8
  | 0 => s
  | n + 1 => blockV kConst (blocksV s b n) ((b.drop (64 * n)).take 64)
/-- how many zeros are laid behind a text of so many bytes and the one -/
def padN (n : Nat) : Nat := (119 - n % 64) % 64
def b8 (x : Int) : UInt8 := UInt8.ofNat (IntKind.u8.wrap x).toNat
def lenB (n k : Nat) : List UInt8 := (List.range k).map fun i => b8 (((8 * n : Nat) : Int).fdiv (2 ^ (56 - 8 * i)))
def tailB (b : List UInt8) : List UInt8 := b.drop (b.length / 64 * 64) ++ [128] ++ List.replicate (padN b.length) 0 ++ lenB b.length 8
def out4 (x : Int) : List UInt8 := [b8 (x.fdiv 16777216), b8 (x.fdiv 65536), b8 (x.fdiv 256), b8 x]
def sha256 (b : List UInt8) : List UInt8 := (blocksV (blocksV vInit b (b.length / 64)) (tailB b) ((tailB b).length / 64)).l.flatMap out4

theorem b8_wrap (x : Int) : IntKind.u8.wrap x = ((b8 x).toNat : Int) := by
  have : 0 ≤ IntKind.u8.wrap x ∧ IntKind.u8.wrap x < 256 := by simp only [IntKind.wrap, IntKind.signed, IntKind.bits]; simp; omega
  unfold b8
  rw [UInt8.toNat_ofNat']
  omega

theorem constants_eq (σ) : ev 39 [] σ = some (.agg (kConst.map (.int .u32)), σ) := by
  refine EV_post rfl Tryd.func39 rfl (by simp [Tryd.ntmps39]) (by kernel_rfl) (by kernel_rfl) ?_
  refine Post_seq (Post_reg (st1 := ⟨[(0, .lp 0 0)], [(0, List.replicate 64 (.int .u32 0))], σ⟩) (by kernel_rfl) ?_)
  refine Post_seq (Post_reg (st1 := ⟨[(0, .lp 0 0), (1, .agg (kConst.map (.int .u32)))], [(0, kConst.map (.int .u32))], σ⟩) (by kernel_rfl) ?_)
  obtain ⟨R, hR⟩ : ∃ R, kConst.map (AV.int .u32) = R := ⟨_, rfl⟩
  have hRd : R.map dem = R := by rw [← hR]; exact map_dem_int
  have hl : R.length = 64 := by rw [← hR]; rfl
  have hRt : R.take 64 = R := List.take_of_length_le (by omega)
  rw [hR]
  simp (maxSteps := 4000000) [Tryd.results39, hRd, hl, hRt]
theorem initial_eq (σ) : ev 40 [] σ = some (.agg (vInit.l.map (.int .u32)), σ) := by
  refine EV_post rfl Tryd.func40 rfl (by simp [Tryd.ntmps40]) (by kernel_rfl) (by kernel_rfl) ?_
  simp (maxSteps := 4000000) [Tryd.results40]
  rfl
theorem fresh_eq (o : Own) (l : List UInt8) (hl : l.length ≤ 1099511627776) (σ) : ev 42 [.sl o (l.map .u8)] σ = some (.sl (.ex 5 1) (l.map .u8), σ) := by
  refine EV_post rfl Tryd.func42 rfl (by simp [Tryd.ntmps42]) (by kernel_rfl) (by kernel_rfl) ?_
  have h0 : ¬ (l.length : Int) < 0 := by omega
  simp (maxSteps := 4000000) [Tryd.results42, most, hl]
end Go.Proofs.Tryd.Ai
end
section
/- SHA-256, walked. -/
namespace Go.Proofs.Tryd.Ai
open Go Go.AI Go.Proofs
set_option maxHeartbeats 4000000

theorem cs_facts (x : V8) : x.cs.length = 8 ∧ x.cs.map dem = x.cs ∧ x.cs.take 8 = x.cs ∧ x.cs.drop 8 = [] := ⟨rfl, rfl, rfl, rfl⟩

theorem block_cs (s : V8) (b : List UInt8) (hb : b.length = 64) (o : Own) (c : Nat) (sh : Option (TypeId × Nat)) (σ) (hc : σ[c]? = some (kConst.map (.int .u32))) :
    ev 41 [.agg s.cs, .sl o (b.map .u8), .gp c 0 sh] σ = some (.agg (blockV kConst s b).cs, σ) := block_eq s b hb o kConst rfl c sh σ hc

theorem lenB_succ (n i : Nat) : lenB n (i + 1) = lenB n i ++ [b8 (((8 * n : Nat) : Int).fdiv (2 ^ (56 - 8 * i)))] := by simp [lenB, List.range_succ]
theorem cs_get (x : V8) (j : Nat) (h : j < 8) : x.cs[j]? = some (.int .u32 (x.l.getD j 0)) := list_get x.l j 8 rfl h
theorem out_succ (x : V8) (j : Nat) (h : j < 8) : (x.l.take (j + 1)).flatMap out4 = (x.l.take j).flatMap out4 ++ out4 (x.l.getD j 0) := by
  have hl : j < x.l.length := h
  rw [List.take_succ_eq_append_getElem hl, List.flatMap_append]
  simp [List.getD, hl]
theorem padN_eq (n k : Nat) (h : k ≤ padN n) : (n % 64 + 1 + k) % 64 = 56 ↔ k = padN n := by unfold padN at *; omega
theorem tailB_len (b : List UInt8) : (tailB b).length % 64 = 0 ∧ (tailB b).length ≤ 128 := by
  have h1 : (tailB b).length = (b.length - b.length / 64 * 64) + 1 + padN b.length + 8 := by simp [tailB, lenB]; omega
  rw [h1]; unfold padN; omega

theorem SHA256_eq (o : Own) (b : List UInt8) (hl : b.length ≤ 1073741824) (σ) : ev 26 [.sl o (b.map .u8)] σ = some (.sl (.ex 5 1) ((sha256 b).map .u8), σ) := by
  refine EV_post rfl Tryd.func26 rfl (by simp [Tryd.ntmps26]) (by kernel_rfl) (by kernel_rfl) ?_
  have hk := constants_eq σ
  have hi : ev 40 [] (σ ++ [kConst.map (.int .u32)]) = some (.agg vInit.cs, σ ++ [kConst.map (.int .u32)]) := initial_eq _
  have hblk := fun (s : V8) (b : List UInt8) (hb : b.length = 64) => block_cs s b hb .sh σ.length (some (70, 64)) (σ ++ [kConst.map (.int .u32)]) (by simp)
  obtain ⟨K, hK⟩ : ∃ K, kConst.map (AV.int .u32) = K := ⟨_, rfl⟩
  have hKd : K.map dem = K := by rw [← hK]; exact map_dem_int
  have hKl : K.length = 64 := by rw [← hK]; rfl
  have hKt : K.take 64 = K := List.take_of_length_le (by omega)
  have hKdr : K.drop 64 = [] := List.drop_eq_nil_of_le (by omega)
  have hKq : lowL σ.length K := by rw [← hK]; simp
  rw [hK] at hk hi hblk
  clear hK
  obtain ⟨i1, i2, i3, i4⟩ := cs_facts vInit
  obtain ⟨W, hW⟩ : ∃ W, b.length / 64 = W := ⟨_, rfl⟩
  have e1 : IntKind.i64.wrap ((b.length : Int) / 64) = (W : Int) := by rw [wrap64 (by omega)]; omega
  obtain ⟨W6, hW6⟩ : ∃ W6, W * 64 = W6 := ⟨_, rfl⟩
  have e2 : IntKind.i64.wrap ((W : Int) * 64) = (W6 : Int) := by rw [wrap64 (by omega)]; omega
  simp (maxSteps := 4000000) [hk, hi, hKd, hKl, hKt, hKdr, i1, i2, i3, i4, e1, e2]
  clear hk hi i1 i2 i3 i4 e1 e2
  -- the whole blocks
  refine Post_loop (I := fun p : Nat × Nat => ⟨[(0, .sl o (b.map .u8)), (3, .gp σ.length 0 (some (70, 64))), (4, .lp 4 0), (5, .int .i64 W6), (6, .int .i64 p.2)], [(4, (blocksV vInit b p.1).cs)], σ ++ [K]⟩)
    (Pr := fun p => p.2 = 64 * p.1 ∧ p.1 ≤ W) (μ := fun p => W - p.1) (a := (0, 0)) (by simp [blocksV]) (by simp) ?_
  rintro ⟨n, m⟩ ⟨hm, hn⟩
  simp only at hm hn ⊢
  obtain ⟨x, hx⟩ : ∃ x, blocksV vInit b n = x := ⟨_, rfl⟩
  obtain ⟨i1, i2, i3, i4⟩ := cs_facts x
  rw [hx]
  by_cases hc : m < W6
  · have q1 : (m : Int) < W6 := by omega
    have q2 : m + 64 ≤ b.length := by omega
    have w1 : IntKind.i64.wrap ((m : Int) + 64) = ((m + 64 : Nat) : Int) := by rw [wrap64 (by omega)]; omega
    have hb := hblk x ((b.drop m).take 64) (by simp; omega)
    obtain ⟨y, hy⟩ : ∃ y, blockV kConst x ((b.drop m).take 64) = y := ⟨_, rfl⟩
    rw [hy] at hb
    obtain ⟨j1, j2, j3, j4⟩ := cs_facts y
    obtain ⟨m2, hm2⟩ : ∃ m2, m + 64 = m2 := ⟨_, rfl⟩
    have hsl : ((b.map AV.u8).take m2).drop m = (((b.drop m).take 64).map AV.u8) := by
      rw [← hm2, List.drop_take, show m + 64 - m = 64 by omega, List.map_take, List.map_drop]
    have q3 : m ≤ m2 := by omega
    rw [hm2] at q2 w1
    have hfin : blocksV vInit b (n + 1) = y := by rw [blocksV, hx, ← hy, hm]
    clear hblk
    simp (maxSteps := 4000000) [-List.map_take, -List.map_drop, q1, q2, q3, w1, hb, i1, i2, i3, i4, j1, j2, j3, j4, hKl, hsl]
    exact ⟨n + 1, m2, ⟨by omega, by omega⟩, by omega, rfl, by rw [hfin]⟩
  have hnW : n = W := by omega
  subst hnW
  obtain rfl : m = W6 := by omega
  have c1 : ¬ (m : Int) < m := by omega
  have hdl : (b.drop m).length = b.length - m := by simp
  have hfr := fresh_eq .sh (b.drop m) (by omega) (σ ++ [K])
  have hsl : (b.map AV.u8).drop m = (b.drop m).map AV.u8 := by rw [List.map_drop]
  have q1 : m ≤ b.length := by omega
  obtain ⟨D, hD⟩ : ∃ D, b.drop m = D := ⟨_, rfl⟩
  rw [hD] at hfr hsl hdl
  have q2 : D.length + 1 ≤ most := by unfold most; omega
  have q3 : D.length + 1 = b.length % 64 + 1 := by omega
  simp (maxSteps := 4000000) [-List.map_take, -List.map_drop, c1, hsl, hfr, q1, q2]
  clear hfr hsl c1
  -- zeros
  refine Post_loop (I := fun k : Nat => ⟨[(0, .sl o (b.map .u8)), (3, .gp σ.length 0 (some (70, 64))), (4, .lp 4 0), (7, .sl (.ex 5 1) ((D ++ [128] ++ List.replicate k 0).map .u8))], [(4, x.cs)], σ ++ [K]⟩)
    (Pr := fun k => k ≤ padN b.length) (μ := fun k => padN b.length - k) (a := 0) (by simp) (by omega) ?_
  intro k hk
  have hp64 : padN b.length < 64 := Nat.mod_lt _ (by omega)
  have hpe := padN_eq b.length k hk
  obtain ⟨L, hL⟩ : ∃ L, D ++ [128] ++ List.replicate k 0 = L := ⟨_, rfl⟩
  have hLl : L.length = b.length % 64 + 1 + k := by rw [← hL]; simp; omega
  simp only [hL]
  by_cases hc : k = padN b.length
  rotate_left
  · have c1 : ¬ ((L.length : Int).tmod 64 = 56) := by rw [Int.tmod_eq_emod_of_nonneg (by omega), hLl]; omega
    have q4 : L.length + 1 ≤ most := by unfold most; omega
    simp (maxSteps := 4000000) [c1, q4]
    refine ⟨k + 1, by omega, by omega, ?_⟩
    rw [← hL, List.replicate_succ']; simp
  have c1 : ((L.length : Int).tmod 64 = 56) := by rw [Int.tmod_eq_emod_of_nonneg (by omega), hLl]; omega
  simp (maxSteps := 4000000) [c1]
  clear c1
  -- the length
  refine Post_loop (I := fun i : Nat => ⟨[(0, .sl o (b.map .u8)), (3, .gp σ.length 0 (some (70, 64))), (4, .lp 4 0), (7, .sl (.ex 5 1) ((L ++ lenB b.length i).map .u8)), (44, .int .i64 i)], [(4, x.cs)], σ ++ [K]⟩)
    (Pr := fun i => i ≤ 8) (μ := fun i => 8 - i) (a := 0) (by simp [lenB]) (by omega) ?_
  intro i hi
  obtain ⟨M, hM⟩ : ∃ M, L ++ lenB b.length i = M := ⟨_, rfl⟩
  have hMl : M.length = L.length + i := by rw [← hM]; simp [lenB]
  simp only [hM]
  by_cases hi8 : i < 8
  · have q4 : (i : Int) < 8 := by omega
    obtain ⟨j, hj⟩ : ∃ j, 56 - 8 * i = j := ⟨_, rfl⟩
    have e1 : IntKind.i64.wrap (56 - 8 * (i : Int)) = (j : Int) := by rw [wrap64 (by omega)]; omega
    have e2 : IntKind.i64.wrap (8 * (i : Int)) = 8 * (i : Int) := wrap64 (by omega)
    have e3 : IntKind.i64.wrap (8 * (b.length : Int)) = 8 * (b.length : Int) := wrap64 (by omega)
    have e4 : IntKind.i64.wrap ((i : Int) + 1) = (i : Int) + 1 := wrap64 (by omega)
    have q5 : ¬ (j : Int) < 0 := by omega
    have q6 : min j 64 = j := by omega
    have q7 : M.length + 1 ≤ most := by unfold most; omega
    have hfin := lenB_succ b.length i
    rw [hj] at hfin
    clear hblk
    simp (maxSteps := 4000000) [q4, e1, e2, e3, e4, q5, q6, q7, IntKind.bits]
    refine ⟨i + 1, by omega, by omega, ?_, by omega⟩
    rw [hfin, ← hM]
    simp [b8_wrap]
  have hi8' : i = 8 := by omega
  subst hi8'
  have c1 : ¬ ((8 : Nat) : Int) < 8 := by omega
  have hT : tailB b = M := by
    rw [← hM, ← hL, ← hD, ← hW6, ← hW, hc]; rfl
  have hTl := tailB_len b
  rw [hT] at hTl
  simp (maxSteps := 4000000)
  -- the last blocks
  obtain ⟨V, hV⟩ : ∃ V, M.length / 64 = V := ⟨_, rfl⟩
  refine Post_loop (I := fun p : Nat × Nat => ⟨[(3, .gp σ.length 0 (some (70, 64))), (4, .lp 4 0), (7, .sl (.ex 5 1) (M.map .u8)), (9, .int .i64 p.2)], [(4, (blocksV x M p.1).cs)], σ ++ [K]⟩)
    (Pr := fun p => p.2 = 64 * p.1 ∧ p.1 ≤ V) (μ := fun p => V - p.1) (a := (0, 0)) (by simp [blocksV]) (by simp) ?_
  rintro ⟨n2, m3⟩ ⟨hm3, hn2⟩
  simp only at hm3 hn2 ⊢
  obtain ⟨z, hz⟩ : ∃ z, blocksV x M n2 = z := ⟨_, rfl⟩
  obtain ⟨i1, i2, i3, i4⟩ := cs_facts z
  rw [hz]
  by_cases hc2 : m3 < M.length
  · have q1 : (m3 : Int) < M.length := by omega
    have q2 : m3 + 64 ≤ M.length := by omega
    have w1 : IntKind.i64.wrap ((m3 : Int) + 64) = ((m3 + 64 : Nat) : Int) := by rw [wrap64 (by omega)]; omega
    have hb := hblk z ((M.drop m3).take 64) (by simp; omega)
    obtain ⟨y, hy⟩ : ∃ y, blockV kConst z ((M.drop m3).take 64) = y := ⟨_, rfl⟩
    rw [hy] at hb
    obtain ⟨j1, j2, j3, j4⟩ := cs_facts y
    obtain ⟨m2, hm2⟩ : ∃ m2, m3 + 64 = m2 := ⟨_, rfl⟩
    have hsl : ((M.map AV.u8).take m2).drop m3 = (((M.drop m3).take 64).map AV.u8) := by
      rw [← hm2, List.drop_take, show m3 + 64 - m3 = 64 by omega, List.map_take, List.map_drop]
    have q3 : m3 ≤ m2 := by omega
    rw [hm2] at q2 w1
    have hfin : blocksV x M (n2 + 1) = y := by rw [blocksV, hz, ← hy, hm3]
    clear hblk
    simp (maxSteps := 4000000) [-List.map_take, -List.map_drop, hc2, q1, q2, q3, w1, hb, i1, i2, i3, i4, j1, j2, j3, j4, hKl, hsl]
    exact ⟨n2 + 1, m2, ⟨by omega, by omega⟩, by omega, rfl, by rw [hfin]⟩
  have hm3M : m3 = M.length := by omega
  have hn2V : n2 = V := by omega
  subst hm3M; subst hn2V
  have c2 : ¬ (M.length : Int) < M.length := by omega
  clear hblk
  simp (maxSteps := 4000000) [c2, i1, i2, i3, i4]
  -- what is handed back
  refine Post_loop (I := fun j : Nat => ⟨[(10, .sl (.ex 5 1) (((z.l.take j).flatMap out4).map .u8)), (72, .agg z.cs), (73, .int .i64 j)], [], σ ++ [K]⟩)
    (Pr := fun j => j ≤ 8) (μ := fun j => 8 - j) (a := 0) (by simp) (by omega) ?_
  intro j hj
  obtain ⟨R, hR⟩ : ∃ R, (z.l.take j).flatMap out4 = R := ⟨_, rfl⟩
  have hRl : R.length ≤ 32 := by
    rw [← hR]
    have : ∀ l : List Int, (l.flatMap out4).length = 4 * l.length := by
      intro l
      induction l with
      | nil => rfl
      | cons a r ih => rw [List.flatMap_cons, List.length_append, ih]; simp [out4]; omega
    rw [this]; simp [V8.l]; omega
  simp only [hR]
  by_cases hj8 : j < 8
  · have q1 : (j : Int) < 8 := by omega
    have q2 : j ≤ 7 := by omega
    have g := cs_get z j hj8
    obtain ⟨v, hv⟩ : ∃ v, z.l.getD j 0 = v := ⟨_, rfl⟩
    have hfin := out_succ z j hj8
    rw [hv] at g hfin
    have e4 : IntKind.i64.wrap ((j : Int) + 1) = (j : Int) + 1 := wrap64 (by omega)
    have q7 : R.length + 4 ≤ most := by unfold most; omega
    simp (maxSteps := 4000000) [-getElem?_pos, List.getElem?_cons_zero, q1, q2, hj8, g, e4, i1, q7, IntKind.bits]
    refine ⟨j + 1, by omega, by omega, ?_, by omega⟩
    rw [hfin, hR]
    simp [out4, b8_wrap]
  have hj8' : j = 8 := by omega
  subst hj8'
  have hfin : sha256 b = R := by
    rw [← hR]
    unfold sha256
    rw [hW, hx, hT, hV, hz]
    rfl
  rw [hfin]
  simp (maxSteps := 4000000) [Tryd.results26]

theorem sha256_len (b : List UInt8) : (sha256 b).length = 32 := rfl
end Go.Proofs.Tryd.Ai
end
section
/- mewslaw7.first answers yes. -/
namespace Go.Proofs.Tryd.Ai
open Go Go.AI Go.Proofs
set_option maxHeartbeats 4000000
set_option linter.unusedVariables false

theorem Leaf_eq (o : Own) (l : List UInt8) (hl : l.length + 1 ≤ 2 ^ 30) (σ) : ev 11 [.sl o (l.map .u8)] σ = some (.sl (.ex 5 1) ((sha256 (0 :: l)).map .u8), σ) := by
  have h1 := fun σ => SHA256_eq .sh (0 :: l) (by simp; omega) σ
  have h2 : 1 + l.length ≤ most := by unfold most; omega
  refine EV_post rfl Tryd.func11 rfl (by simp [Tryd.ntmps11]) (by kernel_rfl) (by kernel_rfl) ?_
  simp only [List.map_cons, AV.u8, show ((UInt8.toNat 0 : Nat) : Int) = 0 from rfl] at h1
  simp (maxSteps := 4000000) [List.getElem?_cons_zero, List.getElem?_cons_succ, h1, h2, Tryd.results11]
theorem within_54 (σ) : ev 27 [.int .i64 5, .int .i64 0, .int .i64 4] σ = some (.bool true, σ) := by
  refine EV_post rfl Tryd.func27 rfl (by simp [Tryd.ntmps27]) (by kernel_rfl) (by kernel_rfl) ?_
  have w : (Int.fdiv 5 (2 ^ 0)) = 5 := by decide
  simp (maxSteps := 4000000) [List.getElem?_cons_zero, List.getElem?_cons_succ, Tryd.results27, w, IntKind.bits, IntKind.wrap, IntKind.signed]
theorem wide_51 (σ) : ev 15 [.int .i64 2, .int .i64 5, .int .i64 0, .int .i64 1] σ = some (.agg [.int .i64 2, .int .i64 0, .int .i64 1, .int .i64 1], σ) := by
  refine EV_post rfl Tryd.func15 rfl (by simp [Tryd.ntmps15]) (by kernel_rfl) (by kernel_rfl) ?_
  simp (maxSteps := 4000000) [List.getElem?_cons_zero, List.getElem?_cons_succ, Tryd.results15, IntKind.bits, IntKind.wrap, IntKind.signed]
theorem TileOf_54 (σ) : ev 14 [.int .i64 2, .int .i64 5, .int .i64 0, .int .i64 4] σ = some (.tup [.agg [.int .i64 2, .int .i64 0, .int .i64 1, .int .i64 1], .int .i64 0], σ) := by
  refine EV_post rfl Tryd.func14 rfl (by simp [Tryd.ntmps14]) (by kernel_rfl) (by kernel_rfl) ?_
  simp (maxSteps := 4000000) [List.getElem?_cons_zero, List.getElem?_cons_succ, within_54, wide_51, Tryd.results14, IntKind.bits, IntKind.wrap, IntKind.signed]
end Go.Proofs.Tryd.Ai
end
section
/- mewslaw7.first answers yes. -/
namespace Go.Proofs.Tryd.Ai
open Go Go.AI Go.Proofs
set_option maxRecDepth 2000
set_option maxHeartbeats 400000
set_option linter.unusedVariables false

theorem fits_51 (σ) : ev 29 [.agg [.int .i64 2, .int .i64 0, .int .i64 1, .int .i64 1]] σ = some (.bool true, σ) := by
  refine EV_post rfl Tryd.func29 rfl (by simp [Tryd.ntmps29]) (by kernel_rfl) (by kernel_rfl) ?_
  refine Post_seq (Post_reg (st1 := ⟨[(0, .agg [.int .i64 2, .int .i64 0, .int .i64 1, .int .i64 1]), (1, .lp 1 0), (2, .bool false)], [(1, [.int .i64 2, .int .i64 0, .int .i64 1, .int .i64 1])], σ⟩) (by kernel_rfl) ?_)
  refine Post_seq (Post_draw [] ⟨[(0, .agg [.int .i64 2, .int .i64 0, .int .i64 1, .int .i64 1]), (1, .lp 1 0), (2, .bool false)], [(1, [.int .i64 2, .int .i64 0, .int .i64 1, .int .i64 1])], σ⟩ ⟨[(0, .agg [.int .i64 2, .int .i64 0, .int .i64 1, .int .i64 1]), (1, .lp 1 0), (2, .bool true)], [(1, [.int .i64 2, .int .i64 0, .int .i64 1, .int .i64 1])], σ⟩ rfl (by kernel_rfl) ?_ ?_)
  · simp [IntKind.bits, wrap64]
  · simp [Tryd.results29]
theorem in_51 (σ) : ev 16 [.agg [.int .i64 2, .int .i64 0, .int .i64 1, .int .i64 1], .int .i64 1048576] σ = some (.bool true, σ) := by
  have hw : ∀ σ, ev 27 [.int .i64 1048576, .int .i64 0, .int .i64 4] σ = some (.bool true, σ) := by
    intro σ
    refine EV_post rfl Tryd.func27 rfl (by simp [Tryd.ntmps27]) (by kernel_rfl) (by kernel_rfl) ?_
    have w : (Int.fdiv 1048576 (2 ^ 0)) = 1048576 := by decide
    simp (maxSteps := 4000000) [List.getElem?_cons_zero, List.getElem?_cons_succ, Tryd.results27, w, IntKind.bits, wrap64]
  refine EV_post rfl Tryd.func16 rfl (by simp [Tryd.ntmps16]) (by kernel_rfl) (by kernel_rfl) ?_
  refine Post_seq (Post_reg (st1 := ⟨[(0, .agg [.int .i64 2, .int .i64 0, .int .i64 1, .int .i64 1]), (1, .int .i64 1048576), (2, .lp 2 0), (4, .bool false)], [(2, [.int .i64 2, .int .i64 0, .int .i64 1, .int .i64 1])], σ⟩) (by kernel_rfl) ?_)
  refine Post_seq (Post_draw [] ⟨[(0, .agg [.int .i64 2, .int .i64 0, .int .i64 1, .int .i64 1]), (1, .int .i64 1048576), (2, .lp 2 0), (4, .bool false)], [(2, [.int .i64 2, .int .i64 0, .int .i64 1, .int .i64 1])], σ⟩ ⟨[(0, .agg [.int .i64 2, .int .i64 0, .int .i64 1, .int .i64 1]), (1, .int .i64 1048576), (2, .lp 2 0), (4, .bool true)], [(2, [.int .i64 2, .int .i64 0, .int .i64 1, .int .i64 1])], σ⟩ rfl (by kernel_rfl) ?_ ?_)
  · simp [IntKind.bits, wrap64, fits_51, hw]
  · simp [Tryd.results16]
theorem three_1 (σ) : ev 17 [.int .i64 1] σ = some (.str [48, 48, 49], σ) := by
  have h1 : ∀ σ, ev 18 [.int .i64 1] σ = some (.str [49], σ) := fun σ => Itoa_dig 1 (by omega) σ
  have h2 := Repeat_zeros
  refine EV_post rfl Tryd.func17 rfl (by simp [Tryd.ntmps17]) (by kernel_rfl) (by kernel_rfl) ?_
  simp (maxSteps := 4000000) [List.getElem?_cons_zero, List.getElem?_cons_succ, h1, h2, Tryd.results17, wrap64, most]
end Go.Proofs.Tryd.Ai
end
section
/- mewslaw7.first answers yes. -/
namespace Go.Proofs.Tryd.Ai
open Go Go.AI Go.Proofs
set_option maxRecDepth 2000
set_option maxHeartbeats 400000
set_option linter.unusedVariables false

theorem Path_51 (σ) : ev 7 [.agg [.int .i64 2, .int .i64 0, .int .i64 1, .int .i64 1]] σ = some (.tup [.str [116, 105, 108, 101, 47, 50, 47, 48, 47, 48, 48, 49, 46, 112, 47, 49], .int .i64 0], σ) := by
  have i0 : ∀ σ, ev 18 [.int .i64 0] σ = some (.str [48], σ) := fun σ => Itoa_dig 0 (by omega) σ
  have i1 : ∀ σ, ev 18 [.int .i64 1] σ = some (.str [49], σ) := fun σ => Itoa_dig 1 (by omega) σ
  have i2 : ∀ σ, ev 18 [.int .i64 2] σ = some (.str [50], σ) := fun σ => Itoa_dig 2 (by omega) σ
  refine EV_post rfl Tryd.func7 rfl (by simp [Tryd.ntmps7]) (by kernel_rfl) (by kernel_rfl) ?_
  simp (maxSteps := 4000000) [List.getElem?_cons_zero, List.getElem?_cons_succ, in_51, three_1, wrap64]
  refine Post_loop (I := fun _ : Unit => ⟨[(1, .lp 1 0), (4, .str [48, 48, 49]), (5, .int .i64 0)], [(1, [.int .i64 2, .int .i64 0, .int .i64 1, .int .i64 1])], σ⟩) (Pr := fun _ => True) (μ := fun _ => 0) (a := ()) (by simp) trivial ?_
  intro _ _
  simp (maxSteps := 4000000) [List.getElem?_cons_zero, List.getElem?_cons_succ, i0, i1, i2, wrap64, IntKind.bits, most, Tryd.results7]
  done
end Go.Proofs.Tryd.Ai
end
section
/- mewslaw7.first: yes. -/
namespace Go.Proofs.Tryd.Ai
open Go Go.AI Go.Proofs
set_option maxRecDepth 2000
set_option maxHeartbeats 400000
set_option linter.unusedVariables false

theorem first_eq (σ) : ev 4 [] σ = some (.bool true, σ) := by
  have hL : ∀ σ, ev 11 [.sl .sh []] σ = some (.sl (.ex 5 1) ((sha256 [0]).map .u8), σ) := fun σ => Leaf_eq .sh [] (by simp) σ
  have hX : ∀ σ, ev 10 [.sl .sh ((sha256 [0]).map .u8)] σ = some (.str (hexL (sha256 [0])), σ) := fun σ => Hex_eq .sh (sha256 [0]) (by decide +kernel) σ
  have hh : hexL (sha256 [0]) = [54, 101, 51, 52, 48, 98, 57, 99, 102, 102, 98, 51, 55, 97, 57, 56, 57, 99, 97, 53, 52, 52, 101, 54, 98, 98, 55, 56, 48, 97, 50, 99, 55, 56, 57, 48, 49, 100, 51, 102, 98, 51, 51, 55, 51, 56, 55, 54, 56, 53, 49, 49, 97, 51, 48, 54, 49, 55, 97, 102, 97, 48, 49, 100] := by decide +kernel
  dsimp only at hh
  rw [hh] at hX
  obtain ⟨D, hD⟩ : ∃ D, sha256 [0] = D := ⟨_, rfl⟩
  rw [hD] at hL hX
  clear hh hD
  have hI : ∀ σ, ev 12 [.int .i64 2, .int .i64 0] σ = some (.tup [.int .i64 6, .int .i64 0], σ) := fun σ => Index_yes 2 0 (by omega) (by omega) σ
  have hS : ∀ σ, ev 13 [.int .i64 5] σ = some (.tup [.int .i64 1, .int .i64 1, .int .i64 0], σ) := fun σ => Split_yes 5 3 1 2 (by decide) (by decide) (by omega) (by decide) σ
  have hN : ∀ σ, ev 6 [.int .i64 0] σ = some (.int .i64 0, σ) := fun σ => Num_eq 0 σ
  refine EV_post rfl Tryd.func4 rfl (by simp [Tryd.ntmps4]) (by kernel_rfl) (by kernel_rfl) ?_
  simp (maxSteps := 4000000) [List.getElem?_cons_zero, List.getElem?_cons_succ, hL, hX, hI, hS, hN, TileOf_54, Path_51, Tryd.results4]
end Go.Proofs.Tryd.Ai
end
