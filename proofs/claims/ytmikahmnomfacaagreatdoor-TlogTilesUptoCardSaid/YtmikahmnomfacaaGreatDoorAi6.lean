/- Part 6 of a proof: a Go function is evaluated on abstract values (texts Sha3 .. TI14); no conditions beyond those of each theorem. -/
import Derived.Test.YtmikahmnomfacaaGreatDoorAi5
set_option linter.all false
set_option linter.unusedVariables false
set_option linter.unusedSimpArgs false
set_option linter.unnecessarySimpa false
section
/- SHA-256: a block, walked. -/
namespace Go.Proofs.Tryz.Ai
open Go Go.AI Go.Proofs
set_option maxHeartbeats 4000000

structure V8 where
  a : Int
  b : Int
  c : Int
  d : Int
  e : Int
  f : Int
  g : Int
  h : Int
def V8.l (x : V8) : List Int := [x.a, x.b, x.c, x.d, x.e, x.f, x.g, x.h]
def big1 (e : Int) : Int := wxor (wxor (rotr e 6) (rotr e 11)) (rotr e 25)
def big0 (a : Int) : Int := wxor (wxor (rotr a 2) (rotr a 13)) (rotr a 22)
def pick3 (e f g : Int) : Int := wxor (wand e f) (wand (wnot e) g)
def most3 (a b c : Int) : Int := wxor (wxor (wand a b) (wand a c)) (wand b c)
def tmp1 (x : V8) (k w : Int) : Int := wadd (wadd (wadd (wadd x.h (big1 x.e)) (pick3 x.e x.f x.g)) k) w
def roundV (x : V8) (k w : Int) : V8 :=
  ⟨wadd (wadd (tmp1 x k w) (big0 x.a)) (most3 x.a x.b x.c), x.a, x.b, x.c, wadd x.d (tmp1 x k w), x.e, x.f, x.g⟩
def roundsV (s : V8) (K W : List Int) : Nat → V8
  | 0 => s
  | n + 1 => roundV (roundsV s K W n) (K.getD n 0) (W.getD n 0)
def addV (x s : V8) : V8 := ⟨wadd x.a s.a, wadd x.b s.b, wadd x.c s.c, wadd x.d s.d, wadd x.e s.e, wadd x.f s.f, wadd x.g s.g, wadd x.h s.h⟩
def blockV (K : List Int) (s : V8) (b : List UInt8) : V8 := addV (roundsV s K (sched b 64) 64) s

/-- the cells while the sums are made -/
def addC (x s : V8) (i : Nat) : List AV := (((addV x s).l.take i) ++ (x.l.drop i)).map (.int .u32)
theorem addC_len (x s : V8) (i : Nat) : (addC x s i).length = 8 := by
  simp [addC, V8.l]; omega
theorem addC_zero (x s : V8) : addC x s 0 = x.l.map (.int .u32) := rfl
theorem addC_end (x s : V8) : addC x s 8 = (addV x s).l.map (.int .u32) := rfl
theorem addC_step (x s : V8) (i : Nat) (h : i < 8) : ∃ y z, (addC x s i)[i]? = some (.int .u32 y) ∧ (s.l.map (AV.int .u32))[i]? = some (.int .u32 z) ∧
    (addC x s i).take i ++ .int .u32 (wadd y z) :: (addC x s i).drop (i + 1) = addC x s (i + 1) := by
  match i, h with
  | 0, _ => exact ⟨x.a, s.a, rfl, rfl, rfl⟩
  | 1, _ => exact ⟨x.b, s.b, rfl, rfl, rfl⟩
  | 2, _ => exact ⟨x.c, s.c, rfl, rfl, rfl⟩
  | 3, _ => exact ⟨x.d, s.d, rfl, rfl, rfl⟩
  | 4, _ => exact ⟨x.e, s.e, rfl, rfl, rfl⟩
  | 5, _ => exact ⟨x.f, s.f, rfl, rfl, rfl⟩
  | 6, _ => exact ⟨x.g, s.g, rfl, rfl, rfl⟩
  | 7, _ => exact ⟨x.h, s.h, rfl, rfl, rfl⟩

theorem list_get (W : List Int) (n m : Nat) (hw : W.length = m) (h : n < m) : (W.map (AV.int .u32))[n]? = some (.int .u32 (W.getD n 0)) := by
  have hj : n < W.length := by omega
  rw [List.getElem?_map, List.getElem?_eq_getElem hj]
  simp [List.getD, hj]

/-- the cells of eight words -/
def V8.cs (x : V8) : List AV := [.int .u32 x.a, .int .u32 x.b, .int .u32 x.c, .int .u32 x.d, .int .u32 x.e, .int .u32 x.f, .int .u32 x.g, .int .u32 x.h]
theorem V8.cs_eq (x : V8) : x.l.map (.int .u32) = x.cs := rfl

theorem rights (σ : List (List AV)) (x : Int) : ev 125 [.int .u32 x, .int .i64 6] σ = some (.int .u32 (rotr x 6), σ) ∧ ev 125 [.int .u32 x, .int .i64 11] σ = some (.int .u32 (rotr x 11), σ) ∧
    ev 125 [.int .u32 x, .int .i64 25] σ = some (.int .u32 (rotr x 25), σ) ∧ ev 125 [.int .u32 x, .int .i64 2] σ = some (.int .u32 (rotr x 2), σ) ∧
    ev 125 [.int .u32 x, .int .i64 13] σ = some (.int .u32 (rotr x 13), σ) ∧ ev 125 [.int .u32 x, .int .i64 22] σ = some (.int .u32 (rotr x 22), σ) :=
  ⟨right_eq x 6 (by omega) σ, right_eq x 11 (by omega) σ, right_eq x 25 (by omega) σ, right_eq x 2 (by omega) σ, right_eq x 13 (by omega) σ, right_eq x 22 (by omega) σ⟩

theorem block_eq (s : V8) (b : List UInt8) (hb : b.length = 64) (o : Own) (K : List Int) (hK : K.length = 64) (c : Nat) (sh : Option (TypeId × Nat)) (σ) (hc : σ[c]? = some (K.map (.int .u32))) :
    ev 106 [.agg (s.l.map (.int .u32)), .sl o (b.map .u8), .gp c 0 sh] σ = some (.agg ((blockV K s b).l.map (.int .u32)), σ) := by
  refine EV_post rfl Tryz.func106 rfl (by simp [Tryz.ntmps106]) (by kernel_rfl) (by kernel_rfl) ?_
  have hs := schedule_eq b hb .sh σ
  obtain ⟨W, hW⟩ : ∃ W, sched b 64 = W := ⟨_, rfl⟩
  have hWl : W.length = 64 := by rw [← hW, sched_len]
  have hbv : blockV K s b = addV (roundsV s K W 64) s := by unfold blockV; rw [hW]
  rw [hW] at hs
  rw [hbv]
  have hs8 : (s.l.map (AV.int .u32)) = s.cs := rfl
  have hWc : (W.map (AV.int .u32)).length = 64 := by simpa using hWl
  obtain ⟨Wc, hWc2⟩ : ∃ Wc, W.map (AV.int .u32) = Wc := ⟨_, rfl⟩
  rw [hWc2] at hs hWc
  have hWn : ∀ n, n < 64 → Wc[n]? = some (.int .u32 (W.getD n 0)) := fun n hn => by rw [← hWc2]; exact list_get W n 64 hWl hn
  have hKn : ∀ n, n < 64 → (K.map (AV.int .u32))[n]? = some (.int .u32 (K.getD n 0)) := fun n hn => list_get K n 64 hK hn
  obtain ⟨Kc, hKc2⟩ : ∃ Kc, K.map (AV.int .u32) = Kc := ⟨_, rfl⟩
  rw [hKc2] at hc hKn
  have hdem : s.cs.map dem = s.cs := rfl
  have hcsl : s.cs.length = 8 := rfl
  have htk : s.cs.take 8 = s.cs := rfl
  have hdr : s.cs.drop 8 = [] := rfl
  have hWd : Wc.map dem = Wc := by rw [← hWc2]; exact map_dem_int
  have hWt : Wc.take 64 = Wc := List.take_of_length_le (by omega)
  clear hWc2 hKc2 hW hbv hWl
  rw [hs8]
  simp (maxSteps := 4000000) [hs, hdem, hcsl, htk, hdr, hWd, hWt, hWc]
  refine Post_loop (I := fun n : Nat => ⟨[(2, .gp c 0 sh), (3, .lp 3 0), (6, .lp 6 0), (7, .lp 7 0), (8, .lp 8 0), (19, .int .i64 n)], [(3, s.cs), (6, List.replicate 8 (.int .u32 0)), (7, Wc), (8, (roundsV s K W n).cs)], σ⟩) (Pr := fun n => n ≤ 64) (μ := fun n => 64 - n) (a := 0) (by simp [roundsV]) (by omega) ?_
  intro n hn
  obtain ⟨x, hx⟩ : ∃ x, roundsV s K W n = x := ⟨_, rfl⟩
  have hx1 : n < 64 → roundsV s K W (n + 1) = roundV x (K.getD n 0) (W.getD n 0) := fun _ => by rw [roundsV, hx]
  obtain ⟨k, hk⟩ : ∃ k, K.getD n 0 = k := ⟨_, rfl⟩
  obtain ⟨w, hw⟩ : ∃ w, W.getD n 0 = w := ⟨_, rfl⟩
  have hWn' := hWn n
  have hKn' := hKn n
  rw [hw] at hWn' hx1
  rw [hk] at hKn' hx1
  clear hWn hKn hk hw
  by_cases hlt : n < 64
  · have g1 := hWn' hlt
    have g2 := hKn' hlt
    have hstep := hx1 hlt
    clear hWn' hKn' hx1 hs
    have q1 : (n : Int) < 64 := by omega
    have q2 : n ≤ 63 := by omega
    have w1 : IntKind.i64.wrap ((n : Int) + 1) = (n : Int) + 1 := wrap64 (by omega)
    have r1 := fun x => (rights σ x).1
    have r2 := fun x => (rights σ x).2.1
    have r3 := fun x => (rights σ x).2.2.1
    have r4 := fun x => (rights σ x).2.2.2.1
    have r5 := fun x => (rights σ x).2.2.2.2.1
    have r6 := fun x => (rights σ x).2.2.2.2.2
    obtain ⟨Sc, hSc⟩ : ∃ Sc, s.cs = Sc := ⟨_, rfl⟩
    have hxc : (roundsV s K W n).cs = [.int .u32 x.a, .int .u32 x.b, .int .u32 x.c, .int .u32 x.d, .int .u32 x.e, .int .u32 x.f, .int .u32 x.g, .int .u32 x.h] := by rw [hx]; rfl
    have hmax : IntKind.u32.max = 4294967295 := rfl
    have hnot : ∀ a, bits .xor .u32 4294967295 a = wnot a := fun a => rfl
    have hsg : IntKind.u32.signed = false := rfl
    simp only [hxc, hSc]
    simp (maxSteps := 8000000) [-getElem?_pos, List.getElem?_cons_zero, q1, q2, hlt, g1, g2, hc, hWc, w1, r1, r2, r3, r4, r5, r6, hnot, hsg, hmax, xor_fold, and_fold, add_fold]
    exact ⟨n + 1, by omega, by omega, by simp, by rw [hstep]; rfl⟩
  · have hn64 : n = 64 := by omega
    subst hn64
    clear hWn' hKn' hx1 hs
    rw [hx]
    obtain ⟨Sc, hSc⟩ : ∃ Sc, s.cs = Sc := ⟨_, rfl⟩
    have hScl : Sc.length = 8 := by rw [← hSc]; rfl
    have hz := addC_zero x s
    rw [V8.cs_eq] at hz
    simp only [hSc]
    simp (maxSteps := 4000000)
    refine Post_loop (I := fun i : Nat => ⟨[(3, .lp 3 0), (6, .lp 6 0), (8, .lp 8 0), (112, .int .i64 i)], [(3, Sc), (6, List.replicate 8 (.int .u32 0)), (8, addC x s i)], σ⟩) (Pr := fun i => i ≤ 8) (μ := fun i => 8 - i) (a := 0) (by simp [hz]) (by omega) ?_
    intro i hi
    have hl8 := addC_len x s i
    by_cases hi8 : i < 8
    · obtain ⟨y, z, e1, e2, e3⟩ := addC_step x s i hi8
      rw [hs8, hSc] at e2
      have q1 : (i : Int) < 8 := by omega
      have q2 : i ≤ 7 := by omega
      have w1 : IntKind.i64.wrap ((i : Int) + 1) = (i : Int) + 1 := wrap64 (by omega)
      simp (maxSteps := 4000000) [-getElem?_pos, List.getElem?_cons_zero, q1, q2, hi8, e1, e2, hl8, hScl, w1, add_fold, e3]
      exact ⟨i + 1, by omega, by omega, by simp, rfl⟩
    · have hi8 : i = 8 := by omega
      subst hi8
      obtain ⟨R, hR⟩ : ∃ R, addC x s 8 = R := ⟨_, rfl⟩
      have hRe : (addV x s).l.map (AV.int .u32) = R := by rw [← addC_end, hR]
      have hRd : R.map dem = R := by rw [← hRe]; exact map_dem_int
      rw [hR] at hl8
      have hRt : R.take 8 = R := List.take_of_length_le (by omega)
      have hRdr : R.drop 8 = [] := List.drop_eq_nil_of_le (by omega)
      simp only [hR, hRe]
      simp (maxSteps := 4000000) [hl8, hRd, hRt, hRdr, Tryz.results106]
end Go.Proofs.Tryz.Ai
end
section
/- SHA-256, walked. -/
namespace Go.Proofs.Tryz.Ai
open Go Go.AI Go.Proofs
set_option maxHeartbeats 4000000

def kConst : List Int := [1116352408, 1899447441, 3049323471, 3921009573, 961987163, 1508970993, 2453635748, 2870763221,
  3624381080, 310598401, 607225278, 1426881987, 1925078388, 2162078206, 2614888103, 3248222580,
  3835390401, 4022224774, 264347078, 604807628, 770255983, 1249150122, 1555081692, 1996064986,
  2554220882, 2821834349, 2952996808, 3210313671, 3336571891, 3584528711, 113926993, 338241895,
  666307205, 773529912, 1294757372, 1396182291, 1695183700, 1986661051, 2177026350, 2456956037,
  2730485921, 2820302411, 3259730800, 3345764771, 3516065817, 3600352804, 4094571909, 275423344,
  430227734, 506948616, 659060556, 883997877, 958139571, 1322822218, 1537002063, 1747873779,
  1955562222, 2024104815, 2227730452, 2361852424, 2428436474, 2756734187, 3204031479, 3329325298]
def vInit : V8 := ⟨1779033703, 3144134277, 1013904242, 2773480762, 1359893119, 2600822924, 528734635, 1541459225⟩
def blocksV (s : V8) (b : List UInt8) : Nat → V8
  | 0 => s
  | n + 1 => blockV kConst (blocksV s b n) ((b.drop (64 * n)).take 64)
/-- how many zeros are laid behind a text of so many bytes and the one -/
def padN (n : Nat) : Nat := (119 - n % 64) % 64
def b8 (x : Int) : UInt8 := UInt8.ofNat (IntKind.u8.wrap x).toNat
def lenB (n k : Nat) : List UInt8 := (List.range k).map fun i => b8 (((8 * n : Nat) : Int).fdiv (2 ^ (56 - 8 * i)))
def tailB (b : List UInt8) : List UInt8 := b.drop (b.length / 64 * 64) ++ [128] ++ List.replicate (padN b.length) 0 ++ lenB b.length 8
def out4 (x : Int) : List UInt8 := [b8 (x.fdiv 16777216), b8 (x.fdiv 65536), b8 (x.fdiv 256), b8 x]
def sha256 (b : List UInt8) : List UInt8 := (blocksV (blocksV vInit b (b.length / 64)) (tailB b) ((tailB b).length / 64)).l.flatMap out4

theorem b8_wrap (x : Int) : IntKind.u8.wrap x = ((b8 x).toNat : Int) := by
  have : 0 ≤ IntKind.u8.wrap x ∧ IntKind.u8.wrap x < 256 := by simp only [IntKind.wrap, IntKind.signed, IntKind.bits]; simp; omega
  unfold b8
  rw [UInt8.toNat_ofNat']
  omega

theorem constants_eq (σ) : ev 104 [] σ = some (.agg (kConst.map (.int .u32)), σ) := by
  refine EV_post rfl Tryz.func104 rfl (by simp [Tryz.ntmps104]) (by kernel_rfl) (by kernel_rfl) ?_
  refine Post_seq (Post_reg (st1 := ⟨[(0, .lp 0 0)], [(0, List.replicate 64 (.int .u32 0))], σ⟩) (by kernel_rfl) ?_)
  refine Post_seq (Post_reg (st1 := ⟨[(0, .lp 0 0), (1, .agg (kConst.map (.int .u32)))], [(0, kConst.map (.int .u32))], σ⟩) (by kernel_rfl) ?_)
  obtain ⟨R, hR⟩ : ∃ R, kConst.map (AV.int .u32) = R := ⟨_, rfl⟩
  have hRd : R.map dem = R := by rw [← hR]; exact map_dem_int
  have hl : R.length = 64 := by rw [← hR]; rfl
  have hRt : R.take 64 = R := List.take_of_length_le (by omega)
  rw [hR]
  simp (maxSteps := 4000000) [Tryz.results104, hRd, hl, hRt]
theorem initial_eq (σ) : ev 105 [] σ = some (.agg (vInit.l.map (.int .u32)), σ) := by
  refine EV_post rfl Tryz.func105 rfl (by simp [Tryz.ntmps105]) (by kernel_rfl) (by kernel_rfl) ?_
  simp (maxSteps := 4000000) [Tryz.results105]
  rfl
theorem fresh_eq (o : Own) (l : List UInt8) (hl : l.length ≤ 1099511627776) (σ) : ev 107 [.sl o (l.map .u8)] σ = some (.sl (.ex 5 1) (l.map .u8), σ) := by
  refine EV_post rfl Tryz.func107 rfl (by simp [Tryz.ntmps107]) (by kernel_rfl) (by kernel_rfl) ?_
  have h0 : ¬ (l.length : Int) < 0 := by omega
  simp (maxSteps := 4000000) [Tryz.results107, most, hl]
end Go.Proofs.Tryz.Ai
end
section
/- SHA-256, walked. -/
namespace Go.Proofs.Tryz.Ai
open Go Go.AI Go.Proofs
set_option maxHeartbeats 4000000

theorem cs_facts (x : V8) : x.cs.length = 8 ∧ x.cs.map dem = x.cs ∧ x.cs.take 8 = x.cs ∧ x.cs.drop 8 = [] := ⟨rfl, rfl, rfl, rfl⟩

theorem block_cs (s : V8) (b : List UInt8) (hb : b.length = 64) (o : Own) (c : Nat) (sh : Option (TypeId × Nat)) (σ) (hc : σ[c]? = some (kConst.map (.int .u32))) :
    ev 106 [.agg s.cs, .sl o (b.map .u8), .gp c 0 sh] σ = some (.agg (blockV kConst s b).cs, σ) := block_eq s b hb o kConst rfl c sh σ hc

theorem lenB_succ (n i : Nat) : lenB n (i + 1) = lenB n i ++ [b8 (((8 * n : Nat) : Int).fdiv (2 ^ (56 - 8 * i)))] := by simp [lenB, List.range_succ]
theorem cs_get (x : V8) (j : Nat) (h : j < 8) : x.cs[j]? = some (.int .u32 (x.l.getD j 0)) := list_get x.l j 8 rfl h
theorem out_succ (x : V8) (j : Nat) (h : j < 8) : (x.l.take (j + 1)).flatMap out4 = (x.l.take j).flatMap out4 ++ out4 (x.l.getD j 0) := by
  have hl : j < x.l.length := h
  rw [List.take_succ_eq_append_getElem hl, List.flatMap_append]
  simp [List.getD, hl]
theorem padN_eq (n k : Nat) (h : k ≤ padN n) : (n % 64 + 1 + k) % 64 = 56 ↔ k = padN n := by unfold padN at *; omega
theorem tailB_len (b : List UInt8) : (tailB b).length % 64 = 0 ∧ (tailB b).length ≤ 128 := by
  have h1 : (tailB b).length = (b.length - b.length / 64 * 64) + 1 + padN b.length + 8 := by simp [tailB, lenB]; omega
  rw [h1]; unfold padN; omega

theorem SHA256_eq (o : Own) (b : List UInt8) (hl : b.length ≤ 1073741824) (σ) : ev 70 [.sl o (b.map .u8)] σ = some (.sl (.ex 5 1) ((sha256 b).map .u8), σ) := by
  refine EV_post rfl Tryz.func70 rfl (by simp [Tryz.ntmps70]) (by kernel_rfl) (by kernel_rfl) ?_
  have hk := constants_eq σ
  have hi : ev 105 [] (σ ++ [kConst.map (.int .u32)]) = some (.agg vInit.cs, σ ++ [kConst.map (.int .u32)]) := initial_eq _
  have hblk := fun (s : V8) (b : List UInt8) (hb : b.length = 64) => block_cs s b hb .sh σ.length (some (131, 64)) (σ ++ [kConst.map (.int .u32)]) (by simp)
  obtain ⟨K, hK⟩ : ∃ K, kConst.map (AV.int .u32) = K := ⟨_, rfl⟩
  have hKd : K.map dem = K := by rw [← hK]; exact map_dem_int
  have hKl : K.length = 64 := by rw [← hK]; rfl
  have hKt : K.take 64 = K := List.take_of_length_le (by omega)
  have hKdr : K.drop 64 = [] := List.drop_eq_nil_of_le (by omega)
  have hKq : lowL σ.length K := by rw [← hK]; simp
  rw [hK] at hk hi hblk
  clear hK
  obtain ⟨i1, i2, i3, i4⟩ := cs_facts vInit
  obtain ⟨W, hW⟩ : ∃ W, b.length / 64 = W := ⟨_, rfl⟩
  have e1 : IntKind.i64.wrap ((b.length : Int) / 64) = (W : Int) := by rw [wrap64 (by omega)]; omega
  obtain ⟨W6, hW6⟩ : ∃ W6, W * 64 = W6 := ⟨_, rfl⟩
  have e2 : IntKind.i64.wrap ((W : Int) * 64) = (W6 : Int) := by rw [wrap64 (by omega)]; omega
  simp (maxSteps := 4000000) [hk, hi, hKd, hKl, hKt, hKdr, i1, i2, i3, i4, e1, e2]
  clear hk hi i1 i2 i3 i4 e1 e2
  -- the whole blocks
  refine Post_loop (I := fun p : Nat × Nat => ⟨[(0, .sl o (b.map .u8)), (3, .gp σ.length 0 (some (131, 64))), (4, .lp 4 0), (5, .int .i64 W6), (6, .int .i64 p.2)], [(4, (blocksV vInit b p.1).cs)], σ ++ [K]⟩)
    (Pr := fun p => p.2 = 64 * p.1 ∧ p.1 ≤ W) (μ := fun p => W - p.1) (a := (0, 0)) (by simp [blocksV]) (by simp) ?_
  rintro ⟨n, m⟩ ⟨hm, hn⟩
  simp only at hm hn ⊢
  obtain ⟨x, hx⟩ : ∃ x, blocksV vInit b n = x := ⟨_, rfl⟩
  obtain ⟨i1, i2, i3, i4⟩ := cs_facts x
  rw [hx]
  by_cases hc : m < W6
  · have q1 : (m : Int) < W6 := by omega
    have q2 : m + 64 ≤ b.length := by omega
    have w1 : IntKind.i64.wrap ((m : Int) + 64) = ((m + 64 : Nat) : Int) := by rw [wrap64 (by omega)]; omega
    have hb := hblk x ((b.drop m).take 64) (by simp; omega)
    obtain ⟨y, hy⟩ : ∃ y, blockV kConst x ((b.drop m).take 64) = y := ⟨_, rfl⟩
    rw [hy] at hb
    obtain ⟨j1, j2, j3, j4⟩ := cs_facts y
    obtain ⟨m2, hm2⟩ : ∃ m2, m + 64 = m2 := ⟨_, rfl⟩
    have hsl : ((b.map AV.u8).take m2).drop m = (((b.drop m).take 64).map AV.u8) := by
      rw [← hm2, List.drop_take, show m + 64 - m = 64 by omega, List.map_take, List.map_drop]
    have q3 : m ≤ m2 := by omega
    rw [hm2] at q2 w1
    have hfin : blocksV vInit b (n + 1) = y := by rw [blocksV, hx, ← hy, hm]
    clear hblk
    simp (maxSteps := 4000000) [-List.map_take, -List.map_drop, q1, q2, q3, w1, hb, i1, i2, i3, i4, j1, j2, j3, j4, hKl, hsl]
    exact ⟨n + 1, m2, ⟨by omega, by omega⟩, by omega, rfl, by rw [hfin]⟩
  have hnW : n = W := by omega
  subst hnW
  obtain rfl : m = W6 := by omega
  have c1 : ¬ (m : Int) < m := by omega
  have hdl : (b.drop m).length = b.length - m := by simp
  have hfr := fresh_eq .sh (b.drop m) (by omega) (σ ++ [K])
  have hsl : (b.map AV.u8).drop m = (b.drop m).map AV.u8 := by rw [List.map_drop]
  have q1 : m ≤ b.length := by omega
  obtain ⟨D, hD⟩ : ∃ D, b.drop m = D := ⟨_, rfl⟩
  rw [hD] at hfr hsl hdl
  have q2 : D.length + 1 ≤ most := by unfold most; omega
  have q3 : D.length + 1 = b.length % 64 + 1 := by omega
  simp (maxSteps := 4000000) [-List.map_take, -List.map_drop, c1, hsl, hfr, q1, q2]
  clear hfr hsl c1
  -- zeros
  refine Post_loop (I := fun k : Nat => ⟨[(0, .sl o (b.map .u8)), (3, .gp σ.length 0 (some (131, 64))), (4, .lp 4 0), (7, .sl (.ex 5 1) ((D ++ [128] ++ List.replicate k 0).map .u8))], [(4, x.cs)], σ ++ [K]⟩)
    (Pr := fun k => k ≤ padN b.length) (μ := fun k => padN b.length - k) (a := 0) (by simp) (by omega) ?_
  intro k hk
  have hp64 : padN b.length < 64 := Nat.mod_lt _ (by omega)
  have hpe := padN_eq b.length k hk
  obtain ⟨L, hL⟩ : ∃ L, D ++ [128] ++ List.replicate k 0 = L := ⟨_, rfl⟩
  have hLl : L.length = b.length % 64 + 1 + k := by rw [← hL]; simp; omega
  simp only [hL]
  by_cases hc : k = padN b.length
  rotate_left
  · have c1 : ¬ ((L.length : Int).tmod 64 = 56) := by rw [Int.tmod_eq_emod_of_nonneg (by omega), hLl]; omega
    have q4 : L.length + 1 ≤ most := by unfold most; omega
    simp (maxSteps := 4000000) [c1, q4]
    refine ⟨k + 1, by omega, by omega, ?_⟩
    rw [← hL, List.replicate_succ']; simp
  have c1 : ((L.length : Int).tmod 64 = 56) := by rw [Int.tmod_eq_emod_of_nonneg (by omega), hLl]; omega
  simp (maxSteps := 4000000) [c1]
  clear c1
  -- the length
  refine Post_loop (I := fun i : Nat => ⟨[(0, .sl o (b.map .u8)), (3, .gp σ.length 0 (some (131, 64))), (4, .lp 4 0), (7, .sl (.ex 5 1) ((L ++ lenB b.length i).map .u8)), (44, .int .i64 i)], [(4, x.cs)], σ ++ [K]⟩)
    (Pr := fun i => i ≤ 8) (μ := fun i => 8 - i) (a := 0) (by simp [lenB]) (by omega) ?_
  intro i hi
  obtain ⟨M, hM⟩ : ∃ M, L ++ lenB b.length i = M := ⟨_, rfl⟩
  have hMl : M.length = L.length + i := by rw [← hM]; simp [lenB]
  simp only [hM]
  by_cases hi8 : i < 8
  · have q4 : (i : Int) < 8 := by omega
    obtain ⟨j, hj⟩ : ∃ j, 56 - 8 * i = j := ⟨_, rfl⟩
    have e1 : IntKind.i64.wrap (56 - 8 * (i : Int)) = (j : Int) := by rw [wrap64 (by omega)]; omega
    have e2 : IntKind.i64.wrap (8 * (i : Int)) = 8 * (i : Int) := wrap64 (by omega)
    have e3 : IntKind.i64.wrap (8 * (b.length : Int)) = 8 * (b.length : Int) := wrap64 (by omega)
    have e4 : IntKind.i64.wrap ((i : Int) + 1) = (i : Int) + 1 := wrap64 (by omega)
    have q5 : ¬ (j : Int) < 0 := by omega
    have q6 : min j 64 = j := by omega
    have q7 : M.length + 1 ≤ most := by unfold most; omega
    have hfin := lenB_succ b.length i
    rw [hj] at hfin
    clear hblk
    simp (maxSteps := 4000000) [q4, e1, e2, e3, e4, q5, q6, q7, IntKind.bits]
    refine ⟨i + 1, by omega, by omega, ?_, by omega⟩
    rw [hfin, ← hM]
    simp [b8_wrap]
  have hi8' : i = 8 := by omega
  subst hi8'
  have c1 : ¬ ((8 : Nat) : Int) < 8 := by omega
  have hT : tailB b = M := by
    rw [← hM, ← hL, ← hD, ← hW6, ← hW, hc]; rfl
  have hTl := tailB_len b
  rw [hT] at hTl
  simp (maxSteps := 4000000)
  -- the last blocks
  obtain ⟨V, hV⟩ : ∃ V, M.length / 64 = V := ⟨_, rfl⟩
  refine Post_loop (I := fun p : Nat × Nat => ⟨[(3, .gp σ.length 0 (some (131, 64))), (4, .lp 4 0), (7, .sl (.ex 5 1) (M.map .u8)), (9, .int .i64 p.2)], [(4, (blocksV x M p.1).cs)], σ ++ [K]⟩)
    (Pr := fun p => p.2 = 64 * p.1 ∧ p.1 ≤ V) (μ := fun p => V - p.1) (a := (0, 0)) (by simp [blocksV]) (by simp) ?_
  rintro ⟨n2, m3⟩ ⟨hm3, hn2⟩
  simp only at hm3 hn2 ⊢
  obtain ⟨z, hz⟩ : ∃ z, blocksV x M n2 = z := ⟨_, rfl⟩
  obtain ⟨i1, i2, i3, i4⟩ := cs_facts z
  rw [hz]
  by_cases hc2 : m3 < M.length
  · have q1 : (m3 : Int) < M.length := by omega
    have q2 : m3 + 64 ≤ M.length := by omega
    have w1 : IntKind.i64.wrap ((m3 : Int) + 64) = ((m3 + 64 : Nat) : Int) := by rw [wrap64 (by omega)]; omega
    have hb := hblk z ((M.drop m3).take 64) (by simp; omega)
    obtain ⟨y, hy⟩ : ∃ y, blockV kConst z ((M.drop m3).take 64) = y := ⟨_, rfl⟩
    rw [hy] at hb
    obtain ⟨j1, j2, j3, j4⟩ := cs_facts y
    obtain ⟨m2, hm2⟩ : ∃ m2, m3 + 64 = m2 := ⟨_, rfl⟩
    have hsl : ((M.map AV.u8).take m2).drop m3 = (((M.drop m3).take 64).map AV.u8) := by
      rw [← hm2, List.drop_take, show m3 + 64 - m3 = 64 by omega, List.map_take, List.map_drop]
    have q3 : m3 ≤ m2 := by omega
    rw [hm2] at q2 w1
    have hfin : blocksV x M (n2 + 1) = y := by rw [blocksV, hz, ← hy, hm3]
    clear hblk
    simp (maxSteps := 4000000) [-List.map_take, -List.map_drop, hc2, q1, q2, q3, w1, hb, i1, i2, i3, i4, j1, j2, j3, j4, hKl, hsl]
    exact ⟨n2 + 1, m2, ⟨by omega, by omega⟩, by omega, rfl, by rw [hfin]⟩
  have hm3M : m3 = M.length := by omega
  have hn2V : n2 = V := by omega
  subst hm3M; subst hn2V
  have c2 : ¬ (M.length : Int) < M.length := by omega
  clear hblk
  simp (maxSteps := 4000000) [c2, i1, i2, i3, i4]
  -- what is handed back
  refine Post_loop (I := fun j : Nat => ⟨[(10, .sl (.ex 5 1) (((z.l.take j).flatMap out4).map .u8)), (72, .agg z.cs), (73, .int .i64 j)], [], σ ++ [K]⟩)
    (Pr := fun j => j ≤ 8) (μ := fun j => 8 - j) (a := 0) (by simp) (by omega) ?_
  intro j hj
  obtain ⟨R, hR⟩ : ∃ R, (z.l.take j).flatMap out4 = R := ⟨_, rfl⟩
  have hRl : R.length ≤ 32 := by
    rw [← hR]
    have : ∀ l : List Int, (l.flatMap out4).length = 4 * l.length := by
      intro l
      induction l with
      | nil => rfl
      | cons a r ih => rw [List.flatMap_cons, List.length_append, ih]; simp [out4]; omega
    rw [this]; simp [V8.l]; omega
  simp only [hR]
  by_cases hj8 : j < 8
  · have q1 : (j : Int) < 8 := by omega
    have q2 : j ≤ 7 := by omega
    have g := cs_get z j hj8
    obtain ⟨v, hv⟩ : ∃ v, z.l.getD j 0 = v := ⟨_, rfl⟩
    have hfin := out_succ z j hj8
    rw [hv] at g hfin
    have e4 : IntKind.i64.wrap ((j : Int) + 1) = (j : Int) + 1 := wrap64 (by omega)
    have q7 : R.length + 4 ≤ most := by unfold most; omega
    simp (maxSteps := 4000000) [-getElem?_pos, List.getElem?_cons_zero, q1, q2, hj8, g, e4, i1, q7, IntKind.bits]
    refine ⟨j + 1, by omega, by omega, ?_, by omega⟩
    rw [hfin, hR]
    simp [out4, b8_wrap]
  have hj8' : j = 8 := by omega
  subst hj8'
  have hfin : sha256 b = R := by
    rw [← hR]
    unfold sha256
    rw [hW, hx, hT, hV, hz]
    rfl
  rw [hfin]
  simp (maxSteps := 4000000) [Tryz.results70]

theorem sha256_len (b : List UInt8) : (sha256 b).length = 32 := rfl
end Go.Proofs.Tryz.Ai
end
section
/- mewslaw7.first answers yes. -/
namespace Go.Proofs.Tryz.Ai
open Go Go.AI Go.Proofs
set_option maxHeartbeats 4000000
set_option linter.unusedVariables false

theorem Leaf_eq (o : Own) (l : List UInt8) (hl : l.length + 1 ≤ 2 ^ 30) (σ) : ev 27 [.sl o (l.map .u8)] σ = some (.sl (.ex 5 1) ((sha256 (0 :: l)).map .u8), σ) := by
  have h1 := fun σ => SHA256_eq .sh (0 :: l) (by simp; omega) σ
  have h2 : 1 + l.length ≤ most := by unfold most; omega
  refine EV_post rfl Tryz.func27 rfl (by simp [Tryz.ntmps27]) (by kernel_rfl) (by kernel_rfl) ?_
  simp only [List.map_cons, AV.u8, show ((UInt8.toNat 0 : Nat) : Int) = 0 from rfl] at h1
  simp (maxSteps := 4000000) [List.getElem?_cons_zero, List.getElem?_cons_succ, h1, h2, Tryz.results27]
theorem within_54 (σ) : ev 44 [.int .i64 5, .int .i64 0, .int .i64 4] σ = some (.bool true, σ) := by
  refine EV_post rfl Tryz.func44 rfl (by simp [Tryz.ntmps44]) (by kernel_rfl) (by kernel_rfl) ?_
  have w : (Int.fdiv 5 (2 ^ 0)) = 5 := by decide
  simp (maxSteps := 4000000) [List.getElem?_cons_zero, List.getElem?_cons_succ, Tryz.results44, w, IntKind.bits, IntKind.wrap, IntKind.signed]
theorem wide_51 (σ) : ev 45 [.int .i64 2, .int .i64 5, .int .i64 0, .int .i64 1] σ = some (.agg [.int .i64 2, .int .i64 0, .int .i64 1, .int .i64 1], σ) := by
  refine EV_post rfl Tryz.func45 rfl (by simp [Tryz.ntmps45]) (by kernel_rfl) (by kernel_rfl) ?_
  simp (maxSteps := 4000000) [List.getElem?_cons_zero, List.getElem?_cons_succ, Tryz.results45, IntKind.bits, IntKind.wrap, IntKind.signed]
theorem TileOf_54 (σ) : ev 10 [.int .i64 2, .int .i64 5, .int .i64 0, .int .i64 4] σ = some (.tup [.agg [.int .i64 2, .int .i64 0, .int .i64 1, .int .i64 1], .int .i64 0], σ) := by
  refine EV_post rfl Tryz.func10 rfl (by simp [Tryz.ntmps10]) (by kernel_rfl) (by kernel_rfl) ?_
  simp (maxSteps := 4000000) [List.getElem?_cons_zero, List.getElem?_cons_succ, within_54, wide_51, Tryz.results10, IntKind.bits, IntKind.wrap, IntKind.signed]
end Go.Proofs.Tryz.Ai
end
section
/- mewslaw7.first answers yes. -/
namespace Go.Proofs.Tryz.Ai
open Go Go.AI Go.Proofs
set_option maxRecDepth 2000
set_option maxHeartbeats 400000
set_option linter.unusedVariables false

theorem fits_51 (σ) : ev 49 [.agg [.int .i64 2, .int .i64 0, .int .i64 1, .int .i64 1]] σ = some (.bool true, σ) := by
  refine EV_post rfl Tryz.func49 rfl (by simp [Tryz.ntmps49]) (by kernel_rfl) (by kernel_rfl) ?_
  refine Post_seq (Post_reg (st1 := ⟨[(0, .agg [.int .i64 2, .int .i64 0, .int .i64 1, .int .i64 1]), (1, .lp 1 0), (2, .bool false)], [(1, [.int .i64 2, .int .i64 0, .int .i64 1, .int .i64 1])], σ⟩) (by kernel_rfl) ?_)
  refine Post_seq (Post_draw [] ⟨[(0, .agg [.int .i64 2, .int .i64 0, .int .i64 1, .int .i64 1]), (1, .lp 1 0), (2, .bool false)], [(1, [.int .i64 2, .int .i64 0, .int .i64 1, .int .i64 1])], σ⟩ ⟨[(0, .agg [.int .i64 2, .int .i64 0, .int .i64 1, .int .i64 1]), (1, .lp 1 0), (2, .bool true)], [(1, [.int .i64 2, .int .i64 0, .int .i64 1, .int .i64 1])], σ⟩ rfl (by kernel_rfl) ?_ ?_)
  · simp [IntKind.bits, wrap64]
  · simp [Tryz.results49]
theorem in_51 (σ) : ev 47 [.agg [.int .i64 2, .int .i64 0, .int .i64 1, .int .i64 1], .int .i64 1048576] σ = some (.bool true, σ) := by
  have hw : ∀ σ, ev 44 [.int .i64 1048576, .int .i64 0, .int .i64 4] σ = some (.bool true, σ) := by
    intro σ
    refine EV_post rfl Tryz.func44 rfl (by simp [Tryz.ntmps44]) (by kernel_rfl) (by kernel_rfl) ?_
    have w : (Int.fdiv 1048576 (2 ^ 0)) = 1048576 := by decide
    simp (maxSteps := 4000000) [List.getElem?_cons_zero, List.getElem?_cons_succ, Tryz.results44, w, IntKind.bits, wrap64]
  refine EV_post rfl Tryz.func47 rfl (by simp [Tryz.ntmps47]) (by kernel_rfl) (by kernel_rfl) ?_
  refine Post_seq (Post_reg (st1 := ⟨[(0, .agg [.int .i64 2, .int .i64 0, .int .i64 1, .int .i64 1]), (1, .int .i64 1048576), (2, .lp 2 0), (4, .bool false)], [(2, [.int .i64 2, .int .i64 0, .int .i64 1, .int .i64 1])], σ⟩) (by kernel_rfl) ?_)
  refine Post_seq (Post_draw [] ⟨[(0, .agg [.int .i64 2, .int .i64 0, .int .i64 1, .int .i64 1]), (1, .int .i64 1048576), (2, .lp 2 0), (4, .bool false)], [(2, [.int .i64 2, .int .i64 0, .int .i64 1, .int .i64 1])], σ⟩ ⟨[(0, .agg [.int .i64 2, .int .i64 0, .int .i64 1, .int .i64 1]), (1, .int .i64 1048576), (2, .lp 2 0), (4, .bool true)], [(2, [.int .i64 2, .int .i64 0, .int .i64 1, .int .i64 1])], σ⟩ rfl (by kernel_rfl) ?_ ?_)
  · simp [IntKind.bits, wrap64, fits_51, hw]
  · simp [Tryz.results47]
theorem three_1 (σ) : ev 53 [.int .i64 1] σ = some (.str [48, 48, 49], σ) := by
  have h1 : ∀ σ, ev 54 [.int .i64 1] σ = some (.str [49], σ) := fun σ => Itoa_dig 1 (by omega) σ
  have h2 := Repeat_zeros
  refine EV_post rfl Tryz.func53 rfl (by simp [Tryz.ntmps53]) (by kernel_rfl) (by kernel_rfl) ?_
  simp (maxSteps := 4000000) [List.getElem?_cons_zero, List.getElem?_cons_succ, h1, h2, Tryz.results53, wrap64, most]
end Go.Proofs.Tryz.Ai
end
section
/- mewslaw7.first answers yes. -/
namespace Go.Proofs.Tryz.Ai
open Go Go.AI Go.Proofs
set_option maxRecDepth 2000
set_option maxHeartbeats 400000
set_option linter.unusedVariables false

theorem Path_51 (σ) : ev 15 [.agg [.int .i64 2, .int .i64 0, .int .i64 1, .int .i64 1]] σ = some (.tup [.str [116, 105, 108, 101, 47, 50, 47, 48, 47, 48, 48, 49, 46, 112, 47, 49], .int .i64 0], σ) := by
  have i0 : ∀ σ, ev 54 [.int .i64 0] σ = some (.str [48], σ) := fun σ => Itoa_dig 0 (by omega) σ
  have i1 : ∀ σ, ev 54 [.int .i64 1] σ = some (.str [49], σ) := fun σ => Itoa_dig 1 (by omega) σ
  have i2 : ∀ σ, ev 54 [.int .i64 2] σ = some (.str [50], σ) := fun σ => Itoa_dig 2 (by omega) σ
  refine EV_post rfl Tryz.func15 rfl (by simp [Tryz.ntmps15]) (by kernel_rfl) (by kernel_rfl) ?_
  simp (maxSteps := 4000000) [List.getElem?_cons_zero, List.getElem?_cons_succ, in_51, three_1, wrap64]
  refine Post_loop (I := fun _ : Unit => ⟨[(1, .lp 1 0), (4, .str [48, 48, 49]), (5, .int .i64 0)], [(1, [.int .i64 2, .int .i64 0, .int .i64 1, .int .i64 1])], σ⟩) (Pr := fun _ => True) (μ := fun _ => 0) (a := ()) (by simp) trivial ?_
  intro _ _
  simp (maxSteps := 4000000) [List.getElem?_cons_zero, List.getElem?_cons_succ, i0, i1, i2, wrap64, IntKind.bits, most, Tryz.results15]
  done
end Go.Proofs.Tryz.Ai
end
section
/- mewslaw7.first: yes. -/
namespace Go.Proofs.Tryz.Ai
open Go Go.AI Go.Proofs
set_option maxRecDepth 2000
set_option maxHeartbeats 400000
set_option linter.unusedVariables false

theorem first_eq (σ) : ev 6 [] σ = some (.bool true, σ) := by
  have hL : ∀ σ, ev 27 [.sl .sh []] σ = some (.sl (.ex 5 1) ((sha256 [0]).map .u8), σ) := fun σ => Leaf_eq .sh [] (by simp) σ
  have hX : ∀ σ, ev 26 [.sl .sh ((sha256 [0]).map .u8)] σ = some (.str (hexL (sha256 [0])), σ) := fun σ => Hex_eq .sh (sha256 [0]) (by decide +kernel) σ
  have hh : hexL (sha256 [0]) = [54, 101, 51, 52, 48, 98, 57, 99, 102, 102, 98, 51, 55, 97, 57, 56, 57, 99, 97, 53, 52, 52, 101, 54, 98, 98, 55, 56, 48, 97, 50, 99, 55, 56, 57, 48, 49, 100, 51, 102, 98, 51, 51, 55, 51, 56, 55, 54, 56, 53, 49, 49, 97, 51, 48, 54, 49, 55, 97, 102, 97, 48, 49, 100] := by decide +kernel
  dsimp only at hh
  rw [hh] at hX
  obtain ⟨D, hD⟩ : ∃ D, sha256 [0] = D := ⟨_, rfl⟩
  rw [hD] at hL hX
  clear hh hD
  have hI : ∀ σ, ev 28 [.int .i64 2, .int .i64 0] σ = some (.tup [.int .i64 6, .int .i64 0], σ) := fun σ => Index_yes 2 0 (by omega) (by omega) σ
  have hS : ∀ σ, ev 29 [.int .i64 5] σ = some (.tup [.int .i64 1, .int .i64 1, .int .i64 0], σ) := fun σ => Split_yes 5 3 1 2 (by decide) (by decide) (by omega) (by decide) σ
  have hN : ∀ σ, ev 12 [.int .i64 0] σ = some (.int .i64 0, σ) := fun σ => Num_eq 0 σ
  refine EV_post rfl Tryz.func6 rfl (by simp [Tryz.ntmps6]) (by kernel_rfl) (by kernel_rfl) ?_
  simp (maxSteps := 4000000) [List.getElem?_cons_zero, List.getElem?_cons_succ, hL, hX, hI, hS, hN, TileOf_54, Path_51, Tryz.results6]
end Go.Proofs.Tryz.Ai
end
section
/- Comparisons of numbers with literals. -/
namespace Go.AI
@[simp] theorem cast_le_lit {n k : Nat} : ((n : Int) ≤ (no_index (OfNat.ofNat k) : Int)) ↔ n ≤ k := by
  show (n : Int) ≤ (k : Int) ↔ n ≤ k; omega
@[simp] theorem lit_le_cast {n k : Nat} : ((no_index (OfNat.ofNat k) : Int) ≤ (n : Int)) ↔ k ≤ n := by
  show (k : Int) ≤ (n : Int) ↔ k ≤ n; omega
@[simp] theorem cast_lt_lit {n k : Nat} : ((n : Int) < (no_index (OfNat.ofNat k) : Int)) ↔ n < k := by
  show (n : Int) < (k : Int) ↔ n < k; omega
@[simp] theorem lit_lt_cast {n k : Nat} : ((no_index (OfNat.ofNat k) : Int) < (n : Int)) ↔ k < n := by
  show (k : Int) < (n : Int) ↔ k < n; omega
@[simp] theorem cast_eq_lit {n k : Nat} : ((n : Int) = (no_index (OfNat.ofNat k) : Int)) ↔ n = k := by
  show (n : Int) = (k : Int) ↔ n = k; omega
@[simp] theorem lit_eq_cast {n k : Nat} : ((no_index (OfNat.ofNat k) : Int) = (n : Int)) ↔ k = n := by
  show (k : Int) = (n : Int) ↔ k = n; omega
@[simp] theorem nonneg_add_lit {n k : Nat} : (0 ≤ (n : Int) + (no_index (OfNat.ofNat k) : Int)) ↔ True := by
  show 0 ≤ (n : Int) + (k : Int) ↔ True; constructor; intro _; trivial; intro _; omega
@[simp] theorem nonneg_add_cast {n k : Nat} : (0 ≤ (n : Int) + (k : Int)) ↔ True := by constructor; intro _; trivial; intro _; omega
@[simp] theorem neg_add_lit {n k : Nat} : ((n : Int) + (no_index (OfNat.ofNat k) : Int) < 0) ↔ False := by
  show (n : Int) + (k : Int) < 0 ↔ False; constructor; intro _; omega; intro h; cases h
@[simp] theorem neg_add_cast {n k : Nat} : ((n : Int) + (k : Int) < 0) ↔ False := by constructor; intro _; omega; intro h; cases h
@[simp] theorem toNat_add_lit {n k : Nat} : ((n : Int) + (no_index (OfNat.ofNat k) : Int)).toNat = n + k := by
  show ((n : Int) + (k : Int)).toNat = n + k; omega
@[simp] theorem toNat_add_cast {n k : Nat} : ((n : Int) + (k : Int)).toNat = n + k := by omega
@[simp] theorem cast_inj' {n k : Nat} : ((n : Int) = (k : Int)) ↔ n = k := by omega
@[simp] theorem cast_lt' {n k : Nat} : ((n : Int) < (k : Int)) ↔ n < k := by omega
@[simp] theorem cast_le' {n k : Nat} : ((n : Int) ≤ (k : Int)) ↔ n ≤ k := by omega
@[simp] theorem u8_inj {n k : UInt8} : n.toNat = k.toNat ↔ n = k := UInt8.toNat_inj
@[simp] theorem u8_lit {a : UInt8} {k : Nat} (h : k < 256) : a.toNat = (no_index (OfNat.ofNat k)) ↔ a = UInt8.ofNat k := by
  show a.toNat = k ↔ _
  constructor
  · intro e; apply UInt8.toNat_inj.1; rw [e]; simp; omega
  · intro e; rw [e]; simp; omega
@[simp] theorem u8_beq {a b : UInt8} : (a == b) = decide (a = b) := by
  by_cases h : a = b <;> simp [h]
end Go.AI
end
section
/- The document's SHA-256: words turned, constants. -/
namespace Go.Proofs.Tryz.Ai
open Go Go.AI Go.Proofs
set_option maxHeartbeats 1000000
set_option linter.unusedVariables false

theorem wor_comm (a b : Int) : wor a b = wor b a := by
  unfold wor; simp only [bits, BitVec.or_comm]
theorem wadd_comm (a b : Int) : wadd a b = wadd b a := by unfold wadd; rw [Int.add_comm]
theorem turn_eq (x : Int) (n : Nat) (hn : n ≤ 32) (σ) : ev 109 [.int .u32 x, .int .i64 n] σ = some (.int .u32 (rotr x n), σ) := by
  refine EV_post rfl Tryz.func109 rfl (by simp [Tryz.ntmps109]) (by kernel_rfl) (by kernel_rfl) ?_
  have h1 : ¬ (n : Int) < 0 := by omega
  have h2 : IntKind.i64.wrap (32 - (n : Int)) = ((32 - n : Nat) : Int) := by rw [wrap64 (by omega)]; omega
  have h4 : min (32 - n) 32 = 32 - n := by omega
  have h5 : min n 32 = n := by omega
  obtain ⟨k, hk⟩ : ∃ k, 32 - n = k := ⟨_, rfl⟩
  have hr : rotr x n = bits .or .u32 (x.fdiv (2 ^ n)) (IntKind.u32.wrap (x * 2 ^ k)) := by unfold rotr; rw [wor_comm, hk]; rfl
  rw [hk] at h2 h4
  clear hn hk
  simp (maxSteps := 4000000) [List.getElem?_cons_zero, List.getElem?_cons_succ, h1, h2, h4, h5, IntKind.bits, Tryz.results109, hr]
theorem rconstants_eq (σ) : ev 108 [] σ = some (.sl (.ex 130 1) (kConst.map (.int .u32)), σ) := by
  refine EV_post rfl Tryz.func108 rfl (by simp [Tryz.ntmps108]) (by kernel_rfl) (by kernel_rfl) ?_
  refine Post_seq (Post_reg (st1 := ⟨[(0, .sl (.ex 130 1) [])], [], σ⟩) (by kernel_rfl) ?_)
  refine Post_seq (Post_reg (st1 := ⟨[(0, .sl (.ex 130 1) (kConst.map (.int .u32))), (1, .sl .sh (kConst.map (.int .u32)))], [], σ⟩) (by kernel_rfl) ?_)
  obtain ⟨R, hR⟩ : ∃ R, kConst.map (AV.int .u32) = R := ⟨_, rfl⟩
  rw [hR]
  simp (maxSteps := 4000000) [List.getElem?_cons_zero, List.getElem?_cons_succ, Tryz.results108]
theorem Bytes_eq (o : Own) (l : List UInt8) (hl : l.length ≤ 2 ^ 39) (σ) : ev 72 [.sl o (l.map .u8)] σ = some (.sl (.ex 5 1) (l.map .u8), σ) := by
  refine EV_post rfl Tryz.func72 rfl (by simp [Tryz.ntmps72]) (by kernel_rfl) (by kernel_rfl) ?_
  have h1 : l.length ≤ most := by unfold most; omega
  simp (maxSteps := 4000000) [List.getElem?_cons_zero, List.getElem?_cons_succ, h1, Tryz.results72]
/-- blocks, one behind the other -/
theorem blocksV_app (x y : List UInt8) (n : Nat) (hx : x.length = 64 * n) (s : V8) : (∀ k, k ≤ n → blocksV s (x ++ y) k = blocksV s x k) ∧ ∀ m, blocksV s (x ++ y) (n + m) = blocksV (blocksV s x n) y m := by
  have h1 : ∀ k, k ≤ n → blocksV s (x ++ y) k = blocksV s x k := by
    intro k
    induction k with
    | zero => intro _; rfl
    | succ k ih =>
      intro hk
      rw [blocksV, blocksV, ih (by omega)]
      congr 1
      rw [List.drop_append_of_le_length (by omega), List.take_append_of_le_length (by simp; omega)]
  refine ⟨h1, fun m => ?_⟩
  induction m with
  | zero => exact h1 n (Nat.le_refl _)
  | succ m ih =>
    rw [← Nat.add_assoc, blocksV, blocksV, ih]
    congr 1
    rw [List.drop_append, List.drop_of_length_le (by omega), List.nil_append, hx, show 64 * (n + m) - 64 * n = 64 * m by omega]
/-- a text, laid out to whole blocks -/
def laidB (b : List UInt8) : List UInt8 := b ++ [128] ++ List.replicate (padN b.length) 0 ++ lenB b.length 8
theorem blocksV_take (s : V8) (x : List UInt8) (n : Nat) : ∀ k, k ≤ n → blocksV s (x.take (64 * n)) k = blocksV s x k := by
  intro k
  induction k with
  | zero => intro _; rfl
  | succ k ih =>
    intro hk
    rw [blocksV, blocksV, ih (by omega)]
    congr 1
    rw [List.drop_take, List.take_take]
    congr 1
    omega
theorem sha256_laid (b : List UInt8) : sha256 b = (blocksV vInit (laidB b) ((laidB b).length / 64)).l.flatMap out4 := by
  have hs : laidB b = b.take (b.length / 64 * 64) ++ tailB b := by
    unfold laidB tailB
    simp only [← List.append_assoc, List.take_append_drop]
  have hl : (b.take (b.length / 64 * 64)).length = 64 * (b.length / 64) := by simp; omega
  have h1 := (blocksV_app _ (tailB b) (b.length / 64) hl vInit).2 ((tailB b).length / 64)
  have h2 : (laidB b).length / 64 = b.length / 64 + (tailB b).length / 64 := by rw [hs, List.length_append, hl]; omega
  have h3 := blocksV_take vInit b (b.length / 64) (b.length / 64) (Nat.le_refl _)
  rw [Nat.mul_comm] at h3
  rw [h2, hs, h1, h3]
  rfl
theorem laidB_len (b : List UInt8) : (laidB b).length % 64 = 0 ∧ (laidB b).length ≤ b.length + 80 := by
  have h1 : (laidB b).length = b.length + 1 + padN b.length + 8 := by simp [laidB, lenB]; omega
  rw [h1]; unfold padN; omega
end Go.Proofs.Tryz.Ai
end
section
/- The document's SHA-256, walked. -/
namespace Go.Proofs.Tryz.Ai
open Go Go.AI Go.Proofs
set_option maxHeartbeats 4000000
set_option linter.unusedVariables false

def wc (B : List UInt8) (l : List Int) (n : Nat) : List AV := (sched B n).map (.int .u32) ++ (l.drop n).map (.int .u32)
theorem wc_len (B : List UInt8) (l : List Int) (n : Nat) (h : n ≤ 64) (hl : l.length = 64) : (wc B l n).length = 64 := by simp [wc, sched_len]; omega
theorem wc_get (B : List UInt8) (l : List Int) (n j : Nat) (h : j < n) : (wc B l n)[j]? = some (.int .u32 ((sched B n).getD j 0)) := by
  have hj : j < (sched B n).length := by rw [sched_len]; exact h
  unfold wc
  rw [List.getElem?_append_left (by simpa using hj), List.getElem?_map, List.getElem?_eq_getElem hj]
  simp [List.getD, hj]
theorem wc_set (B : List UInt8) (l : List Int) (n : Nat) (v : Int) (h : n < 64) (hl : l.length = 64) (hv : v = if n < 16 then wordAt B n else nextW (sched B n) n) : (wc B l n).take n ++ .int .u32 v :: (wc B l n).drop (n + 1) = wc B l (n + 1) := by
  unfold wc
  rw [List.take_append_of_le_length (by simp [sched_len]), List.take_of_length_le (by simp [sched_len])]
  rw [List.drop_append, List.drop_eq_nil_of_le (by simp [sched_len])]
  simp only [List.length_map, sched_len, sched, hv]
  rw [show n + 1 - n = 1 by omega, ← List.map_drop, List.drop_drop]
  simp
theorem addV_comm (x s : V8) : addV x s = addV s x := by unfold addV; simp only [wadd_comm]
theorem turns (σ : List (List AV)) (x : Int) : ev 109 [.int .u32 x, .int .i64 6] σ = some (.int .u32 (rotr x 6), σ) ∧ ev 109 [.int .u32 x, .int .i64 11] σ = some (.int .u32 (rotr x 11), σ) ∧
    ev 109 [.int .u32 x, .int .i64 25] σ = some (.int .u32 (rotr x 25), σ) ∧ ev 109 [.int .u32 x, .int .i64 2] σ = some (.int .u32 (rotr x 2), σ) ∧
    ev 109 [.int .u32 x, .int .i64 13] σ = some (.int .u32 (rotr x 13), σ) ∧ ev 109 [.int .u32 x, .int .i64 22] σ = some (.int .u32 (rotr x 22), σ) :=
  ⟨turn_eq x 6 (by omega) σ, turn_eq x 11 (by omega) σ, turn_eq x 25 (by omega) σ, turn_eq x 2 (by omega) σ, turn_eq x 13 (by omega) σ, turn_eq x 22 (by omega) σ⟩
theorem turns4 (σ : List (List AV)) (x : Int) : ev 109 [.int .u32 x, .int .i64 7] σ = some (.int .u32 (rotr x 7), σ) ∧ ev 109 [.int .u32 x, .int .i64 18] σ = some (.int .u32 (rotr x 18), σ) ∧
    ev 109 [.int .u32 x, .int .i64 17] σ = some (.int .u32 (rotr x 17), σ) ∧ ev 109 [.int .u32 x, .int .i64 19] σ = some (.int .u32 (rotr x 19), σ) :=
  ⟨turn_eq x 7 (by omega) σ, turn_eq x 18 (by omega) σ, turn_eq x 17 (by omega) σ, turn_eq x 19 (by omega) σ⟩

theorem rSHA256_eq (o : Own) (b : List UInt8) (hl : b.length ≤ 1073741824) (σ) : ev 74 [.sl o (b.map .u8)] σ = some (.sl (.ex 5 1) ((sha256 b).map .u8), σ) := by
  have hK := rconstants_eq σ
  have hB := Bytes_eq .sh b (by omega) (σ ++ [vInit.cs])
  have hcs : vInit.cs = [.int .u32 1779033703, .int .u32 3144134277, .int .u32 1013904242, .int .u32 2773480762, .int .u32 1359893119, .int .u32 2600822924, .int .u32 528734635, .int .u32 1541459225] := rfl
  rw [hcs] at hB
  obtain ⟨K, hKK⟩ : ∃ K, kConst.map (AV.int .u32) = K := ⟨_, rfl⟩
  rw [hKK] at hK
  have q0 : b.length + 1 ≤ most := by unfold most; omega
  refine EV_post rfl Tryz.func74 rfl (by simp [Tryz.ntmps74]) (by kernel_rfl) (by kernel_rfl) ?_
  simp (maxSteps := 4000000) [List.getElem?_cons_zero, List.getElem?_cons_succ, hK, hB, q0]
  -- zeros
  refine Post_loop (I := fun k : Nat => ⟨[(0, .sl o (b.map .u8)), (3, .sl (.ex 130 1) K), (4, .ms 130 1 σ.length 0 8), (5, .sl (.ex 5 1) ((b ++ [128] ++ List.replicate k 0).map .u8))], [], σ ++ [vInit.cs]⟩)
    (Pr := fun k => k ≤ padN b.length) (μ := fun k => padN b.length - k) (a := 0) (by simp [hcs]) (by omega) ?_
  intro k hk
  have hp64 : padN b.length < 64 := Nat.mod_lt _ (by omega)
  have hpe := padN_eq b.length k hk
  obtain ⟨L, hL⟩ : ∃ L, b ++ [128] ++ List.replicate k 0 = L := ⟨_, rfl⟩
  have hLl : L.length = b.length + 1 + k := by rw [← hL]; simp; omega
  simp only [hL]
  by_cases hc : k = padN b.length
  rotate_left
  · have c1 : ¬ ((L.length : Int).tmod 64 = 56) := by rw [Int.tmod_eq_emod_of_nonneg (by omega), hLl]; omega
    have q4 : L.length + 1 ≤ most := by unfold most; omega
    simp (maxSteps := 4000000) [List.getElem?_cons_zero, List.getElem?_cons_succ, c1, q4]
    refine ⟨k + 1, by omega, by omega, ?_⟩
    rw [← hL, List.replicate_succ']; simp
  have c1 : ((L.length : Int).tmod 64 = 56) := by rw [Int.tmod_eq_emod_of_nonneg (by omega), hLl]; omega
  have u1 : IntKind.u64.wrap (b.length : Int) = b.length := wrapU64 (by omega)
  have u2 : IntKind.u64.wrap ((b.length : Int) * 8) = ((8 * b.length : Nat) : Int) := by rw [wrapU64 (by omega)]; omega
  obtain ⟨n8, hn8⟩ : ∃ n8, 8 * b.length = n8 := ⟨_, rfl⟩
  rw [hn8] at u2
  simp (maxSteps := 4000000) [List.getElem?_cons_zero, List.getElem?_cons_succ, c1, u1, u2]
  clear c1
  -- the length
  refine Post_loop (I := fun i : Nat => ⟨[(3, .sl (.ex 130 1) K), (4, .ms 130 1 σ.length 0 8), (5, .sl (.ex 5 1) ((L ++ lenB b.length i).map .u8)), (6, .int .u64 n8), (7, .int .i64 (7 - (i : Int)))], [], σ ++ [vInit.cs]⟩)
    (Pr := fun i => i ≤ 8) (μ := fun i => 8 - i) (a := 0) (by simp [lenB]) (by omega) ?_
  intro i hi
  obtain ⟨M, hM⟩ : ∃ M, L ++ lenB b.length i = M := ⟨_, rfl⟩
  have hMl : M.length = L.length + i := by rw [← hM]; simp [lenB]
  simp only [hM]
  by_cases hi8 : i < 8
  · obtain ⟨t, ht⟩ : ∃ t : Int, 7 - (i : Int) = t := ⟨_, rfl⟩
    have q4 : 0 ≤ t := by omega
    obtain ⟨j, hj⟩ : ∃ j, 56 - 8 * i = j := ⟨_, rfl⟩
    have e1 : IntKind.i64.wrap (8 * t) = (j : Int) := by rw [wrap64 (by omega)]; omega
    have e4 : IntKind.i64.wrap (t - 1) = t - 1 := wrap64 (by omega)
    have q5 : ¬ (j : Int) < 0 := by omega
    have q6 : min j 64 = j := by omega
    have q7 : M.length + 1 ≤ most := by unfold most; omega
    have hfin := lenB_succ b.length i
    rw [hj, hn8] at hfin
    simp only [ht]
    simp (maxSteps := 4000000) [List.getElem?_cons_zero, List.getElem?_cons_succ, q4, e1, e4, q5, q6, q7, IntKind.bits]
    refine ⟨i + 1, by omega, by omega, ?_, by omega⟩
    rw [hfin, ← hM]
    simp [b8_wrap]
  have hi8' : i = 8 := by omega
  subst hi8'
  have hT : laidB b = M := by rw [← hM, ← hL, hc]; rfl
  have hTl := laidB_len b
  rw [hT] at hTl
  have hv64 : (64 : Nat) ≤ most := by unfold most; omega
  simp (maxSteps := 4000000) [List.getElem?_cons_zero, List.getElem?_cons_succ, hv64]
  obtain ⟨N, hN⟩ : ∃ N, M.length / 64 = N := ⟨_, rfl⟩
  have hMN : M.length = 64 * N := by omega
  clear hpe hp64 hi hMl hM
  -- the blocks
  refine Post_loop (I := fun p : Nat × List Int => ⟨[(3, .sl (.ex 130 1) K), (4, .ms 130 1 σ.length 0 8), (5, .sl (.ex 5 1) (M.map .u8)), (8, .ms 130 1 (σ.length + 1) 0 64), (9, .int .i64 ((64 * p.1 : Nat) : Int))], [], σ ++ [(blocksV vInit M p.1).cs, p.2.map (.int .u32)]⟩)
    (Pr := fun p => p.1 ≤ N ∧ p.2.length = 64) (μ := fun p => N - p.1) (a := (0, List.replicate 64 0)) (by simp [blocksV]) (by simp) ?_
  rintro ⟨n, l⟩ ⟨hn, hll⟩
  simp only at hn hll ⊢
  obtain ⟨X, hX⟩ : ∃ X, blocksV vInit M n = X := ⟨_, rfl⟩
  obtain ⟨i1, i2, i3, i4⟩ := cs_facts X
  obtain ⟨m, hm⟩ : ∃ m, 64 * n = m := ⟨_, rfl⟩
  simp only [hX, hm]
  by_cases hc2 : n < N
  · have q1 : m < M.length := by omega
    obtain ⟨B, hB2⟩ : ∃ B, (M.drop m).take 64 = B := ⟨_, rfl⟩
    have hBl : B.length = 64 := by rw [← hB2]; simp; omega
    have hBg : ∀ j, j < 64 → M[m + j]? = B[j]? := by
      intro j hj
      rw [← hB2, List.getElem?_take, if_pos hj, List.getElem?_drop]
    have hstep : blocksV vInit M (n + 1) = blockV kConst X B := by rw [blocksV, hX, hm, hB2]
    simp (maxSteps := 4000000) [List.getElem?_cons_zero, List.getElem?_cons_succ, q1]
    -- sixteen words of the block
    refine Post_loop (I := fun j : Nat => ⟨[(3, .sl (.ex 130 1) K), (4, .ms 130 1 σ.length 0 8), (5, .sl (.ex 5 1) (M.map .u8)), (8, .ms 130 1 (σ.length + 1) 0 64), (9, .int .i64 m), (10, .int .i64 j)], [], σ ++ [X.cs, wc B l j]⟩)
      (Pr := fun j => j ≤ 16) (μ := fun j => 16 - j) (a := 0) (by simp [wc, sched]) (by omega) ?_
    intro j hj
    have hlen := wc_len B l j (by omega) hll
    have w1 : IntKind.i64.wrap ((j : Int) + 1) = (j : Int) + 1 := wrap64 (by omega)
    by_cases h16 : j < 16
    · obtain ⟨m4, hm4⟩ : ∃ m4, m + 4 * j = m4 := ⟨_, rfl⟩
      have e4 : IntKind.i64.wrap (4 * (j : Int)) = 4 * (j : Int) := wrap64 (by omega)
      have e5 : IntKind.i64.wrap ((m : Int) + 4 * (j : Int)) = (m4 : Int) := by rw [wrap64 (by omega)]; omega
      have e6 : IntKind.i64.wrap ((m4 : Int) + 1) = ((m4 + 1 : Nat) : Int) := by rw [wrap64 (by omega)]; omega
      have e7 : IntKind.i64.wrap ((m4 : Int) + 2) = ((m4 + 2 : Nat) : Int) := by rw [wrap64 (by omega)]; omega
      have e8 : IntKind.i64.wrap ((m4 : Int) + 3) = ((m4 + 3 : Nat) : Int) := by rw [wrap64 (by omega)]; omega
      obtain ⟨x0, hx0⟩ : ∃ x, M[m4]? = some x := ⟨_, List.getElem?_eq_getElem (by omega)⟩
      obtain ⟨x1, hx1⟩ : ∃ x, M[m4 + 1]? = some x := ⟨_, List.getElem?_eq_getElem (by omega)⟩
      obtain ⟨x2, hx2⟩ : ∃ x, M[m4 + 2]? = some x := ⟨_, List.getElem?_eq_getElem (by omega)⟩
      obtain ⟨x3, hx3⟩ : ∃ x, M[m4 + 3]? = some x := ⟨_, List.getElem?_eq_getElem (by omega)⟩
      have b0 := hBg (4 * j) (by omega)
      have b1 := hBg (4 * j + 1) (by omega)
      have b2 := hBg (4 * j + 2) (by omega)
      have b3 := hBg (4 * j + 3) (by omega)
      rw [hm4, hx0] at b0
      rw [← Nat.add_assoc, hm4, hx1] at b1
      rw [← Nat.add_assoc, hm4, hx2] at b2
      rw [← Nat.add_assoc, hm4, hx3] at b3
      have hset := wc_set B l j (wordAt B j) (by omega) hll (by rw [if_pos h16])
      have hw : wordAt B j = wor (wor (wor (IntKind.u32.wrap ((x0.toNat : Int) * 16777216)) (IntKind.u32.wrap ((x1.toNat : Int) * 65536))) (IntKind.u32.wrap ((x2.toNat : Int) * 256))) (x3.toNat : Int) := by
        simp [wordAt, byteI, List.getD, ← b0, ← b1, ← b2, ← b3]
      rw [hw] at hset
      have h63 : j ≤ 63 := by omega
      have h64 : j < 64 := by omega
      clear hw hBg b0 b1 b2 b3 hm4
      simp (maxSteps := 4000000) [List.getElem?_cons_zero, List.getElem?_cons_succ, -getElem?_pos, h16, h63, h64, e4, e5, e6, e7, e8, hx0, hx1, hx2, hx3, wrapU32_byte, hlen, w1, or_fold, IntKind.bits, hset]
      exact ⟨j + 1, by omega, by omega, by simp, rfl⟩
    have hj16 : j = 16 := by omega
    subst hj16
    clear hBg w1
    simp (maxSteps := 4000000) [List.getElem?_cons_zero, List.getElem?_cons_succ, List.getElem?_cons_zero]
    -- the words behind
    refine Post_loop (I := fun k : Nat => ⟨[(3, .sl (.ex 130 1) K), (4, .ms 130 1 σ.length 0 8), (5, .sl (.ex 5 1) (M.map .u8)), (8, .ms 130 1 (σ.length + 1) 0 64), (9, .int .i64 m), (12, .int .i64 k)], [], σ ++ [X.cs, wc B l k]⟩)
      (Pr := fun k => 16 ≤ k ∧ k ≤ 64) (μ := fun k => 64 - k) (a := 16) (by simp) (by omega) ?_
    rintro k ⟨hk1, hk2⟩
    have hlen2 := wc_len B l k (by omega) hll
    have w1 : IntKind.i64.wrap ((k : Int) + 1) = (k : Int) + 1 := wrap64 (by omega)
    by_cases h64 : k < 64
    · obtain ⟨m1, h1⟩ : ∃ m, k - 15 = m := ⟨_, rfl⟩
      obtain ⟨m2, h2⟩ : ∃ m, k - 2 = m := ⟨_, rfl⟩
      obtain ⟨m3, h3⟩ : ∃ m, k - 16 = m := ⟨_, rfl⟩
      obtain ⟨m4, h4⟩ : ∃ m, k - 7 = m := ⟨_, rfl⟩
      have e1 : IntKind.i64.wrap ((k : Int) - 15) = (m1 : Int) := by rw [wrap64 (by omega)]; omega
      have e2 : IntKind.i64.wrap ((k : Int) - 2) = (m2 : Int) := by rw [wrap64 (by omega)]; omega
      have e3 : IntKind.i64.wrap ((k : Int) - 16) = (m3 : Int) := by rw [wrap64 (by omega)]; omega
      have e4 : IntKind.i64.wrap ((k : Int) - 7) = (m4 : Int) := by rw [wrap64 (by omega)]; omega
      have g1 := wc_get B l k m1 (by omega)
      have g2 := wc_get B l k m2 (by omega)
      have g3 := wc_get B l k m3 (by omega)
      have g4 := wc_get B l k m4 (by omega)
      have l1 : m1 < 64 := by omega
      have l2 : m2 < 64 := by omega
      have l3 : m3 < 64 := by omega
      have l4 : m4 < 64 := by omega
      have r1 := fun σ x => (turns4 σ x).1
      have r2 := fun σ x => (turns4 σ x).2.1
      have r3 := fun σ x => (turns4 σ x).2.2.1
      have r4 := fun σ x => (turns4 σ x).2.2.2
      have hset := wc_set B l k (nextW (sched B k) k) h64 hll (by rw [if_neg (by omega)])
      unfold nextW sig0 sig1 at hset
      rw [h1, h2, h3, h4] at hset
      have h63 : k ≤ 63 := by omega
      generalize (sched B k).getD m1 0 = y1 at *
      generalize (sched B k).getD m2 0 = y2 at *
      generalize (sched B k).getD m3 0 = y3 at *
      generalize (sched B k).getD m4 0 = y4 at *
      clear h1 h2 h3 h4 hlen
      simp (maxSteps := 4000000) [List.getElem?_cons_zero, List.getElem?_cons_succ, -getElem?_pos, h64, h63, e1, e2, e3, e4, g1, g2, g3, g4, l1, l2, l3, l4, r1, r2, r3, r4, hlen2, w1, xor_fold, add_fold, IntKind.bits, hset]
      exact ⟨k + 1, ⟨by omega, by omega⟩, by omega, by simp, rfl⟩
    have hk64 : k = 64 := by omega
    subst hk64
    clear hlen hlen2 w1
    obtain ⟨W, hW⟩ : ∃ W, sched B 64 = W := ⟨_, rfl⟩
    have hWl : W.length = 64 := by rw [← hW, sched_len]
    have hwc : wc B l 64 = W.map (.int .u32) := by unfold wc; rw [hW, List.drop_of_length_le (by omega)]; simp
    rw [hwc]
    obtain ⟨Wc, hWc2⟩ : ∃ Wc, W.map (AV.int .u32) = Wc := ⟨_, rfl⟩
    rw [hWc2]
    have h8 : (8 : Nat) ≤ most := by unfold most; omega
    have hpl : allCells 1 X.cs := by
      intro c hc; simp [V8.cs] at hc; rcases hc with rfl | rfl | rfl | rfl | rfl | rfl | rfl | rfl <;> exact ⟨rfl, fun c h => by simp [AV.cells] at h; subst h; rfl⟩
    simp (maxSteps := 4000000) [List.getElem?_cons_zero, List.getElem?_cons_succ, i1, i2, i3, i4, h8, hpl]
    have hWn : ∀ n, n < 64 → Wc[n]? = some (.int .u32 (W.getD n 0)) := fun n hn => by rw [← hWc2]; exact list_get W n 64 hWl hn
    have hKn : ∀ n, n < 64 → K[n]? = some (.int .u32 (kConst.getD n 0)) := fun n hn => by rw [← hKK]; exact list_get kConst n 64 rfl hn
    have hWcl : Wc.length = 64 := by rw [← hWc2]; simpa using hWl
    have hbv : blockV kConst X B = addV (roundsV X kConst W 64) X := by unfold blockV; rw [hW]
    rw [hbv] at hstep
    -- the rounds
    refine Post_loop (I := fun k : Nat => ⟨[(3, .sl (.ex 130 1) K), (4, .ms 130 1 σ.length 0 8), (5, .sl (.ex 5 1) (M.map .u8)), (8, .ms 130 1 (σ.length + 1) 0 64), (9, .int .i64 m), (15, .sl (.ex 130 1) (roundsV X kConst W k).cs), (16, .int .i64 k)], [], σ ++ [X.cs, Wc]⟩)
      (Pr := fun k => k ≤ 64) (μ := fun k => 64 - k) (a := 0) (by simp [roundsV]) (by omega) ?_
    intro k hk
    obtain ⟨x, hx⟩ : ∃ x, roundsV X kConst W k = x := ⟨_, rfl⟩
    have hxc : x.cs = [.int .u32 x.a, .int .u32 x.b, .int .u32 x.c, .int .u32 x.d, .int .u32 x.e, .int .u32 x.f, .int .u32 x.g, .int .u32 x.h] := rfl
    by_cases hlt : k < 64
    · have g1 := hWn k hlt
      have g2 := hKn k hlt
      have hs1 : roundsV X kConst W (k + 1) = roundV x (kConst.getD k 0) (W.getD k 0) := by rw [roundsV, hx]
      obtain ⟨kk, hkk⟩ : ∃ kk, kConst.getD k 0 = kk := ⟨_, rfl⟩
      obtain ⟨w, hw⟩ : ∃ w, W.getD k 0 = w := ⟨_, rfl⟩
      rw [hw] at g1 hs1
      rw [hkk] at g2 hs1
      clear hWn hKn hkk hw hbv hstep hpl
      have q2 : k ≤ 63 := by omega
      have w1 : IntKind.i64.wrap ((k : Int) + 1) = (k : Int) + 1 := wrap64 (by omega)
      have r1 := fun σ x => (turns σ x).1
      have r2 := fun σ x => (turns σ x).2.1
      have r3 := fun σ x => (turns σ x).2.2.1
      have r4 := fun σ x => (turns σ x).2.2.2.1
      have r5 := fun σ x => (turns σ x).2.2.2.2.1
      have r6 := fun σ x => (turns σ x).2.2.2.2.2
      obtain ⟨Xc, hXc⟩ : ∃ Xc, X.cs = Xc := ⟨_, rfl⟩
      have hmax : IntKind.u32.max = 4294967295 := rfl
      have hnot : ∀ a, bits .xor .u32 4294967295 a = wnot a := fun a => rfl
      have hsg : IntKind.u32.signed = false := rfl
      simp only [hx, hxc, hXc]
      simp (maxSteps := 4000000) [List.getElem?_cons_zero, List.getElem?_cons_succ, -getElem?_pos, hlt, q2, g1, g2, hWcl, w1, r1, r2, r3, r4, r5, r6, hnot, hsg, hmax, xor_fold, and_fold, add_fold]
      exact ⟨k + 1, by omega, by omega, by rw [hs1]; rfl, by simp⟩
    have hk64 : k = 64 := by omega
    subst hk64
    rw [hx] at hstep
    simp only [hx]
    have hst2 : blocksV vInit M (n + 1) = addV X x := by rw [hstep, addV_comm]
    clear hWn hKn hbv hstep
    have hz := addC_zero X x
    rw [V8.cs_eq] at hz
    obtain ⟨xc, hxc2⟩ : ∃ xc, x.cs = xc := ⟨_, rfl⟩
    have hxs : (x.l.map (AV.int .u32)) = xc := hxc2
    have hxcl : xc.length = 8 := by rw [← hxc2]; rfl
    simp only [hxc2]
    simp (maxSteps := 4000000) [List.getElem?_cons_zero, List.getElem?_cons_succ, hWcl]
    -- the sums
    refine Post_loop (I := fun j : Nat => ⟨[(3, .sl (.ex 130 1) K), (4, .ms 130 1 σ.length 0 8), (5, .sl (.ex 5 1) (M.map .u8)), (8, .ms 130 1 (σ.length + 1) 0 64), (9, .int .i64 m), (15, .sl (.ex 130 1) xc), (22, .int .i64 j)], [], σ ++ [addC X x j, Wc]⟩)
      (Pr := fun j => j ≤ 8) (μ := fun j => 8 - j) (a := 0) (by simp [hz]) (by omega) ?_
    intro j hj
    have hl8 := addC_len X x j
    by_cases hj8 : j < 8
    · obtain ⟨y, z, e1, e2, e3⟩ := addC_step X x j hj8
      rw [hxs] at e2
      have q2 : j ≤ 7 := by omega
      have w1 : IntKind.i64.wrap ((j : Int) + 1) = (j : Int) + 1 := wrap64 (by omega)
      simp (maxSteps := 4000000) [List.getElem?_cons_zero, List.getElem?_cons_succ, -getElem?_pos, q2, hj8, e1, e2, hl8, hxcl, w1, add_fold, e3]
      exact ⟨j + 1, by omega, by omega, by simp, rfl⟩
    have hj8' : j = 8 := by omega
    subst hj8'
    have w1 : IntKind.i64.wrap ((m : Int) + 64) = (m : Int) + 64 := wrap64 (by omega)
    have hce := addC_end X x
    rw [V8.cs_eq, ← hst2] at hce
    simp only [hce]
    simp (maxSteps := 4000000) [List.getElem?_cons_zero, List.getElem?_cons_succ, w1]
    refine ⟨n + 1, W, ⟨by omega, hWl⟩, by omega, by omega, by simp, hWc2.symm⟩
  · have hnN : n = N := by omega
    subst hnN
    have q1 : ¬ m < M.length := by omega
    simp (maxSteps := 4000000) [List.getElem?_cons_zero, List.getElem?_cons_succ, q1]
    -- what is handed back
    refine Post_loop (I := fun j : Nat => ⟨[(4, .ms 130 1 σ.length 0 8), (23, .sl (.ex 5 1) (((X.l.take j).flatMap out4).map .u8)), (24, .int .i64 j)], [], σ ++ [X.cs, l.map (.int .u32)]⟩)
      (Pr := fun j => j ≤ 8) (μ := fun j => 8 - j) (a := 0) (by simp) (by omega) ?_
    intro j hj
    obtain ⟨R, hR⟩ : ∃ R, (X.l.take j).flatMap out4 = R := ⟨_, rfl⟩
    have hRl : R.length ≤ 32 := by
      rw [← hR]
      have : ∀ l : List Int, (l.flatMap out4).length = 4 * l.length := by
        intro l
        induction l with
        | nil => rfl
        | cons a r ih => rw [List.flatMap_cons, List.length_append, ih]; simp [out4]; omega
      rw [this]; simp [V8.l]; omega
    simp only [hR]
    by_cases hj8 : j < 8
    · have q2 : j ≤ 7 := by omega
      have g := cs_get X j hj8
      obtain ⟨v, hv⟩ : ∃ v, X.l.getD j 0 = v := ⟨_, rfl⟩
      have hfin := out_succ X j hj8
      rw [hv] at g hfin
      have e4 : IntKind.i64.wrap ((j : Int) + 1) = (j : Int) + 1 := wrap64 (by omega)
      have q7 : R.length + 4 ≤ most := by unfold most; omega
      simp (maxSteps := 4000000) [List.getElem?_cons_zero, List.getElem?_cons_succ, -getElem?_pos, q2, hj8, g, e4, i1, q7, IntKind.bits]
      refine ⟨j + 1, by omega, by omega, ?_, by omega⟩
      rw [hfin, hR]
      simp [out4, b8_wrap]
    have hj8' : j = 8 := by omega
    subst hj8'
    have hfin : sha256 b = R := by
      rw [sha256_laid, hT, hN, hX, ← hR]
      rfl
    rw [hfin]
    simp (maxSteps := 4000000) [List.getElem?_cons_zero, List.getElem?_cons_succ, Tryz.results74]
end Go.Proofs.Tryz.Ai
end
section
/- tlog: halves, the parts that a proof names. -/
namespace Go.Proofs.Tryz.Ai
open Go Go.AI Go.Proofs
set_option maxHeartbeats 2000000
set_option linter.unusedVariables false

theorem half_eq (n : Nat) (h : 2 ≤ n) (hn : n ≤ 2 ^ 40) (σ) : ev 92 [.int .i64 n] σ = some (.int .i64 (halfN n), σ) := by
  refine EV_post rfl Tryz.func92 rfl (by simp [Tryz.ntmps92]) (by kernel_rfl) (by kernel_rfl) ?_
  simp (maxSteps := 4000000) (disch := omega) [dT, dF, wrap64]
  refine Post_loop (I := fun s : Nat => ⟨[(0, .int .i64 n), (3, .int .i64 s)], [], σ⟩) (Pr := fun s => 0 < s ∧ s < n ∧ halfW n s = halfN n) (μ := fun s => n - s) (a := 1) (by simp) ⟨by omega, by omega, rfl⟩ ?_
  rintro s ⟨h0, h1, h2⟩
  have w1 : IntKind.i64.wrap (2 * (s : Int)) = ((2 * s : Nat) : Int) := by rw [wrap64 (by omega)]; omega
  have w2 : IntKind.i64.wrap ((s : Int) * 2) = ((2 * s : Nat) : Int) := by rw [wrap64 (by omega)]; omega
  obtain ⟨d, hd⟩ : ∃ d, 2 * s = d := ⟨_, rfl⟩
  rw [hd] at w1 w2
  by_cases hc : d < n
  · simp (maxSteps := 4000000) [List.getElem?_cons_zero, List.getElem?_cons_succ, w1, w2, hc]
    exact ⟨⟨by omega, by rw [← h2, ← hd]; exact (by rw [halfW.eq_def n s, dif_pos ⟨by omega, h0⟩])⟩, by omega⟩
  · have h3 : halfN n = s := by rw [← h2, halfW, dif_neg (by omega)]
    simp (maxSteps := 4000000) [List.getElem?_cons_zero, List.getElem?_cons_succ, w1, hc, h3, Tryz.results92]
theorem split_eq (n : Nat) (h : 2 ≤ n) (hn : n ≤ 2 ^ 40) (σ) : ev 101 [.int .i64 n] σ = some (.int .i64 (halfN n), σ) := by
  refine EV_post rfl Tryz.func101 rfl (by simp [Tryz.ntmps101]) (by kernel_rfl) (by kernel_rfl) ?_
  simp (maxSteps := 4000000) (disch := omega) [dT, dF, wrap64]
  refine Post_loop (I := fun s : Nat => ⟨[(0, .int .i64 n), (3, .int .i64 s)], [], σ⟩) (Pr := fun s => 0 < s ∧ s < n ∧ halfW n s = halfN n) (μ := fun s => n - s) (a := 1) (by simp) ⟨by omega, by omega, rfl⟩ ?_
  rintro s ⟨h0, h1, h2⟩
  have w1 : IntKind.i64.wrap (2 * (s : Int)) = ((2 * s : Nat) : Int) := by rw [wrap64 (by omega)]; omega
  obtain ⟨d, hd⟩ : ∃ d, 2 * s = d := ⟨_, rfl⟩
  rw [hd] at w1
  by_cases hc : d < n
  · simp (maxSteps := 4000000) [List.getElem?_cons_zero, List.getElem?_cons_succ, w1, hc]
    exact ⟨⟨by omega, by rw [← h2, ← hd]; exact (by rw [halfW.eq_def n s, dif_pos ⟨by omega, h0⟩])⟩, by omega⟩
  · have h3 : halfN n = s := by rw [← h2, halfW, dif_neg (by omega)]
    simp (maxSteps := 4000000) [List.getElem?_cons_zero, List.getElem?_cons_succ, w1, hc, h3, Tryz.results101]
def spanA (x : Nat × Nat) : AV := .agg [.int .i64 x.1, .int .i64 x.2]
theorem path_eq (n : Nat) : ∀ (i frm : Nat), 1 ≤ n → i < n → frm + n ≤ 2 ^ 30 → ∀ σ, ev 80 [.int .i64 i, .agg [.int .i64 frm, .int .i64 n]] σ = some (.sl (.ex 113 2) ((pathN i frm n).map spanA), σ) := by
  induction n using Nat.strongRecOn with
  | _ n ih =>
    intro i frm h1 hi hf σ
    refine EV_post rfl Tryz.func80 rfl (by simp [Tryz.ntmps80]) (by kernel_rfl) (by kernel_rfl) ?_
    by_cases hn : n = 1
    · subst hn
      have e : pathN i frm 1 = [] := by rw [pathN, dif_neg (by omega)]
      simp (maxSteps := 4000000) [List.getElem?_cons_zero, List.getElem?_cons_succ, e, Tryz.results80]
    · have h2 : 2 ≤ n := by omega
      have hs := halfN_spec h2
      have hH := half_eq n h2 (by omega)
      have e : pathN i frm n = if i < halfN n then pathN i frm (halfN n) ++ [(frm + halfN n, n - halfN n)] else pathN (i - halfN n) (frm + halfN n) (n - halfN n) ++ [(frm, halfN n)] := by
        rw [pathN, dif_pos h2]
      have hle : ∀ i a, (pathN i a (halfN n)).length ≤ n ∧ (pathN i a (n - halfN n)).length ≤ n := fun i a => ⟨by have := pathN_le (halfN n) i a; omega, by have := pathN_le (n - halfN n) i a; omega⟩
      rw [e]
      have ihA := ih (halfN n) hs.2.1 i frm hs.1
      have ihB := ih (n - halfN n) (by omega) (i - halfN n) (frm + halfN n) (by omega)
      obtain ⟨s, hsd⟩ : ∃ s, halfN n = s := ⟨_, rfl⟩
      rw [hsd] at hs hH ihA ihB hle ⊢
      have w1 : IntKind.i64.wrap ((frm : Int) + s) = ((frm + s : Nat) : Int) := by rw [wrap64 (by omega)]; omega
      have w2 : IntKind.i64.wrap ((n : Int) - s) = ((n - s : Nat) : Int) := by rw [wrap64 (by omega)]; omega
      obtain ⟨f2, hf2⟩ : ∃ f2, frm + s = f2 := ⟨_, rfl⟩
      obtain ⟨n2, hn2⟩ : ∃ n2, n - s = n2 := ⟨_, rfl⟩
      rw [hf2] at w1 ihB ⊢
      rw [hn2] at w2 ihB hle ⊢
      by_cases hc : i < s
      · have ihA' := ihA hc (by omega)
        have q := (hle i frm).1
        have q2 : (pathN i frm s).length + 1 ≤ most := by unfold most; omega
        rw [if_pos hc]
        generalize pathN i frm s = L at ihA' q2
        simp (maxSteps := 4000000) [List.getElem?_cons_zero, List.getElem?_cons_succ, hn, hH, w1, w2, hc, ihA', q2, spanA, Tryz.results80]
      · have w3 : IntKind.i64.wrap ((i : Int) - s) = ((i - s : Nat) : Int) := by rw [wrap64 (by omega)]; omega
        have ihB' := ihB (by omega) (by omega)
        have q := (hle (i - s) f2).2
        have q2 : (pathN (i - s) f2 n2).length + 1 ≤ most := by unfold most; omega
        rw [if_neg hc]
        generalize pathN (i - s) f2 n2 = L at ihB' q2
        obtain ⟨i2, hi2⟩ : ∃ i2, i - s = i2 := ⟨_, rfl⟩
        rw [hi2] at w3 ihB'
        simp (maxSteps := 4000000) [List.getElem?_cons_zero, List.getElem?_cons_succ, hn, hH, w1, w2, w3, hc, ihB', q2, spanA, Tryz.results80]
theorem steps_eq (i n : Nat) (h1 : 1 ≤ n) (hi : i < n) (hn : n ≤ 2 ^ 30) (σ) : ev 86 [.int .i64 i, .int .i64 n] σ = some (.int .i64 (stepsN i n), σ) := by
  refine EV_post rfl Tryz.func86 rfl (by simp [Tryz.ntmps86]) (by kernel_rfl) (by kernel_rfl) ?_
  simp (maxSteps := 4000000) (disch := omega) [dT, dF, wrap64]
  refine Post_loop (I := fun p : Nat × Nat × Nat => ⟨[(0, .int .i64 p.1), (1, .int .i64 p.2.1), (5, .int .i64 p.2.2)], [], σ⟩) (Pr := fun p => 1 ≤ p.2.1 ∧ p.2.1 ≤ n ∧ p.1 < p.2.1 ∧ p.2.2 + stepsN p.1 p.2.1 = stepsN i n) (μ := fun p => p.2.1) (a := (i, n, 0)) (by simp) ⟨h1, by simp, hi, by simp⟩ ?_
  rintro ⟨a, m, k⟩ ⟨g1, g2, g3, g4⟩
  simp only at g1 g2 g3 g4 ⊢
  by_cases hm : 2 ≤ m
  · have hs := halfN_spec hm
    have hS := split_eq m hm (by omega)
    have e : stepsN a m = if a < halfN m then stepsN a (halfN m) + 1 else stepsN (a - halfN m) (m - halfN m) + 1 := by
      unfold stepsN
      rw [pathN, dif_pos hm]
      split
      · simp
      · simp; exact pathN_len _ _ _ _
    obtain ⟨s, hsd⟩ : ∃ s, halfN m = s := ⟨_, rfl⟩
    rw [hsd] at hs hS e
    rw [e] at g4
    have hm1 : 1 < m := by omega
    have hle : stepsN i n ≤ n := pathN_le _ _ _
    have w0 : IntKind.i64.wrap ((k : Int) + 1) = (k : Int) + 1 := by
      refine wrap64 ?_
      split at g4 <;> omega
    by_cases hc : a < s
    · rw [if_pos hc] at g4
      simp (maxSteps := 4000000) [List.getElem?_cons_zero, List.getElem?_cons_succ, hm1, hS, hc, w0]
      exact ⟨a, s, k + 1, ⟨by omega, by omega, hc, by omega⟩, by omega, rfl, rfl, by simp⟩
    · rw [if_neg hc] at g4
      have w1 : IntKind.i64.wrap ((a : Int) - s) = ((a - s : Nat) : Int) := by rw [wrap64 (by omega)]; omega
      have w2 : IntKind.i64.wrap ((m : Int) - s) = ((m - s : Nat) : Int) := by rw [wrap64 (by omega)]; omega
      simp (maxSteps := 4000000) [List.getElem?_cons_zero, List.getElem?_cons_succ, hm1, hS, hc, w0, w1, w2]
      exact ⟨a - s, m - s, k + 1, ⟨by omega, by omega, by omega, by omega⟩, by omega, rfl, rfl, by simp⟩
  · have hm1 : ¬ 1 < m := by omega
    have e : stepsN a m = 0 := by unfold stepsN; rw [pathN, dif_neg hm]; rfl
    have g5 : stepsN i n = k := by omega
    simp (maxSteps := 4000000) [List.getElem?_cons_zero, List.getElem?_cons_succ, hm1, g5, Tryz.results86]
end Go.Proofs.Tryz.Ai
end
section
/- tlog: nodes; the hash that a path makes. -/
namespace Go.Proofs.Tryz.Ai
open Go Go.AI Go.Proofs
set_option maxHeartbeats 2000000
set_option linter.unusedVariables false

def nodeB (l r : List UInt8) : List UInt8 := sha256 (1 :: (l ++ r))
theorem nodeB_len (l r : List UInt8) : (nodeB l r).length = 32 := sha256_len _
theorem Node_eq (o o' : Own) (l r : List UInt8) (hl : l.length ≤ 2 ^ 28) (hr : r.length ≤ 2 ^ 28) (σ) : ev 73 [.sl o (l.map .u8), .sl o' (r.map .u8)] σ = some (.sl (.ex 5 1) ((nodeB l r).map .u8), σ) := by
  have h1 := fun σ => SHA256_eq .sh (1 :: (l ++ r)) (by simp; omega) σ
  have h2 : 1 + l.length ≤ most := by unfold most; omega
  have h3 : l.length + 1 + r.length ≤ most := by unfold most; omega
  simp only [List.map_cons, List.map_append, AV.u8, show ((UInt8.toNat 1 : Nat) : Int) = 1 from rfl] at h1
  unfold nodeB
  refine EV_post rfl Tryz.func73 rfl (by simp [Tryz.ntmps73]) (by kernel_rfl) (by kernel_rfl) ?_
  simp (maxSteps := 4000000) [List.getElem?_cons_zero, List.getElem?_cons_succ, h1, h2, h3, Tryz.results73]
theorem rNode_eq (o o' : Own) (l r : List UInt8) (hl : l.length ≤ 2 ^ 28) (hr : r.length ≤ 2 ^ 28) (σ) : ev 102 [.sl o (l.map .u8), .sl o' (r.map .u8)] σ = some (.sl (.ex 5 1) ((nodeB l r).map .u8), σ) := by
  have h1 := fun σ => rSHA256_eq .sh (1 :: (l ++ r)) (by simp; omega) σ
  have h2 : 1 + l.length ≤ most := by unfold most; omega
  have h3 : l.length + 1 + r.length ≤ most := by unfold most; omega
  simp only [List.map_cons, List.map_append, AV.u8, show ((UInt8.toNat 1 : Nat) : Int) = 1 from rfl] at h1
  unfold nodeB
  refine EV_post rfl Tryz.func102 rfl (by simp [Tryz.ntmps102]) (by kernel_rfl) (by kernel_rfl) ?_
  simp (maxSteps := 4000000) [List.getElem?_cons_zero, List.getElem?_cons_succ, h1, h2, h3, Tryz.results102]
theorem Equal_eq (o o' : Own) (a b : List UInt8) (σ) : ev 81 [.sl o (a.map .u8), .sl o' (b.map .u8)] σ = some (.bool (a == b), σ) := by
  have hb := bytesOf_map
  refine EV_post rfl Tryz.func81 rfl (by simp [Tryz.ntmps81]) (by kernel_rfl) (by kernel_rfl) ?_
  simp (maxSteps := 4000000) [List.getElem?_cons_zero, List.getElem?_cons_succ, -AV.u8, hb, Tryz.results81]
theorem SameBytes_eq (o o' : Own) (a b : List UInt8) (ha : a.length ≤ 2 ^ 40) (σ) : ev 17 [.sl o (a.map .u8), .sl o' (b.map .u8)] σ = some (.bool (a == b), σ) := by
  refine EV_post rfl Tryz.func17 rfl (by simp [Tryz.ntmps17]) (by kernel_rfl) (by kernel_rfl) ?_
  by_cases hl : a.length = b.length
  · simp (maxSteps := 4000000) [List.getElem?_cons_zero, List.getElem?_cons_succ, hl]
    refine Post_loop (I := fun i : Nat => ⟨[(0, .sl o (a.map .u8)), (1, .sl o' (b.map .u8)), (5, .int .i64 i)], [], σ⟩) (Pr := fun i => i ≤ a.length ∧ a.take i = b.take i) (μ := fun i => a.length - i) (a := 0) (by simp) (by simp) ?_
    rintro i ⟨hi, he⟩
    by_cases hc : i < b.length
    · obtain ⟨x, hx⟩ : ∃ x, a[i]? = some x := ⟨_, List.getElem?_eq_getElem (by omega)⟩
      obtain ⟨y, hy⟩ : ∃ y, b[i]? = some y := ⟨_, List.getElem?_eq_getElem (by omega)⟩
      have w1 : IntKind.i64.wrap ((i : Int) + 1) = (i : Int) + 1 := wrap64 (by omega)
      by_cases hxy : x = y
      · subst hxy
        simp (maxSteps := 4000000) [List.getElem?_cons_zero, List.getElem?_cons_succ, -getElem?_pos, hl, hc, hx, hy, w1]
        refine ⟨i + 1, ⟨by omega, ?_⟩, by omega, by simp⟩
        rw [List.take_add_one, List.take_add_one, he, hx, hy]
      · have hne : (a == b) = false := by
          rw [beq_eq_false_iff_ne]; intro e; rw [e, hy] at hx; injection hx with hx; exact hxy hx.symm
        simp (maxSteps := 4000000) [List.getElem?_cons_zero, List.getElem?_cons_succ, -getElem?_pos, hl, hc, hx, hy, hxy, hne, Tryz.results17]
    · have h1 : a = b := by
        rw [← List.take_of_length_le (show a.length ≤ i by omega), ← List.take_of_length_le (show b.length ≤ i by omega), he]
      have h2 : (a == b) = true := by simpa using h1
      simp (maxSteps := 4000000) [List.getElem?_cons_zero, List.getElem?_cons_succ, hl, hc, h2, Tryz.results17]
  · have h2 : (a == b) = false := by rw [beq_eq_false_iff_ne]; intro e; exact hl (by rw [e])
    simp (maxSteps := 4000000) [List.getElem?_cons_zero, List.getElem?_cons_succ, hl, h2, Tryz.results17]
theorem climbB_len (n : Nat) : ∀ (p : List (List UInt8)) (i : Nat) (leaf : List UInt8), leaf.length ≤ 2 ^ 27 → (climbB nodeB p i n leaf).length ≤ 2 ^ 27 := by
  intro p i leaf hl
  rw [climbB]
  split
  · split <;> rw [nodeB_len] <;> omega
  · exact hl
/-- hashes, as the program holds them -/
abbrev hs (p : List (List UInt8)) : List AV := p.map fun l => .sl .sh (l.map .u8)
theorem climb_eq (n : Nat) : ∀ (p : List (List UInt8)) (i : Nat) (leaf : List UInt8), 1 ≤ n → i < n → n ≤ 2 ^ 30 → p.length = stepsN i n → (∀ x ∈ p, x.length ≤ 2 ^ 27) → leaf.length ≤ 2 ^ 27 → ∀ (σ : List (List AV)),
    ∃ o, ev 82 [.sl .sh (hs p), .int .i64 i, .int .i64 n, .sl .sh (leaf.map .u8)] σ = some (.sl o ((climbB nodeB p i n leaf).map .u8), σ) := by
  induction n using Nat.strongRecOn with
  | _ n ih =>
    intro p i leaf h1 hi hn hp hx hl σ
    by_cases h2 : 2 ≤ n
    · have hsp := halfN_spec h2
      have hH := half_eq n h2 (by omega)
      rw [stepsN_pos h2] at hp
      obtain ⟨k, hk⟩ : ∃ k, (if i < halfN n then stepsN i (halfN n) else stepsN (i - halfN n) (n - halfN n)) = k := ⟨_, rfl⟩
      rw [hk] at hp
      have hkl : k ≤ n := by
        rw [← hk]; split
        · have := pathN_le (halfN n) i 0; unfold stepsN; omega
        · have := pathN_le (n - halfN n) (i - halfN n) 0; unfold stepsN; omega
      obtain ⟨z, hz⟩ : ∃ z, p[k]? = some z := ⟨_, List.getElem?_eq_getElem (by omega)⟩
      have hzm : z.length ≤ 2 ^ 27 := hx z (List.mem_of_getElem? hz)
      have hpt : ∀ x ∈ p.take k, x.length ≤ 2 ^ 27 := fun x h => hx x (List.mem_of_mem_take h)
      have hkk : (p.take k).length = k := by simp; omega
      have hD : p.getD (p.length - 1) [] = z := by rw [hp, Nat.add_sub_cancel]; simp [List.getD, hz]
      have e : climbB nodeB p i n leaf = if i < halfN n then nodeB (climbB nodeB (p.take k) i (halfN n) leaf) z else nodeB z (climbB nodeB (p.take k) (i - halfN n) (n - halfN n) leaf) := by
        rw [climbB, dif_pos h2, hD, hp, Nat.add_sub_cancel]
      rw [e]
      have ihA := ih (halfN n) hsp.2.1 (p.take k) i leaf hsp.1
      have ihB := ih (n - halfN n) (by omega) (p.take k) (i - halfN n) leaf (by omega)
      have w0 : IntKind.i64.wrap ((p.length : Int) - 1) = (k : Int) := by rw [wrap64 (by omega)]; omega
      have w1 : IntKind.i64.wrap (k : Int) = (k : Int) := wrap64 (by omega)
      have hn1 : ¬ n = 1 := by omega
      have q0 : k ≤ p.length := by omega
      by_cases hc : i < halfN n
      · rw [if_pos hc] at hk ⊢
        obtain ⟨o, ho⟩ := ihA hc (by omega) (by rw [hkk, hk]) hpt hl σ
        have hN := Node_eq .sh .sh (climbB nodeB (p.take k) i (halfN n) leaf) z (by have := climbB_len (halfN n) (p.take k) i leaf hl; omega) (by omega)
        generalize climbB nodeB (p.take k) i (halfN n) leaf = C at ho hN
        generalize halfN n = s at hH ho hc
        simp only [hs, List.map_take] at ho
        refine ⟨.ex 5 1, ?_⟩
        refine EV_post rfl Tryz.func82 rfl (by simp [Tryz.ntmps82]) (by kernel_rfl) (by kernel_rfl) ?_
        simp (maxSteps := 4000000) [List.getElem?_cons_zero, List.getElem?_cons_succ, -getElem?_pos, hn1, hH, w0, w1, hp, hz, q0, hc, ho, hN, Tryz.results82]
      · rw [if_neg hc] at hk ⊢
        obtain ⟨o, ho⟩ := ihB (by omega) (by omega) (by rw [hkk, hk]) hpt hl σ
        have hN := Node_eq .sh .sh z (climbB nodeB (p.take k) (i - halfN n) (n - halfN n) leaf) (by omega) (by have := climbB_len (n - halfN n) (p.take k) (i - halfN n) leaf hl; omega)
        generalize climbB nodeB (p.take k) (i - halfN n) (n - halfN n) leaf = C at ho hN
        obtain ⟨s, hsd⟩ : ∃ s, halfN n = s := ⟨_, rfl⟩
        rw [hsd] at hH ho hc hsp
        have w3 : IntKind.i64.wrap ((i : Int) - s) = ((i - s : Nat) : Int) := by rw [wrap64 (by omega)]; omega
        have w4 : IntKind.i64.wrap ((n : Int) - s) = ((n - s : Nat) : Int) := by rw [wrap64 (by omega)]; omega
        simp only [hs, List.map_take] at ho
        refine ⟨.ex 5 1, ?_⟩
        refine EV_post rfl Tryz.func82 rfl (by simp [Tryz.ntmps82]) (by kernel_rfl) (by kernel_rfl) ?_
        simp (maxSteps := 4000000) [List.getElem?_cons_zero, List.getElem?_cons_succ, -getElem?_pos, hn1, hH, w0, w1, w3, w4, hp, hz, q0, hc, ho, hN, Tryz.results82]
    · have hn1 : n = 1 := by omega
      subst hn1
      have e : climbB nodeB p i 1 leaf = leaf := by rw [climbB, dif_neg (by omega)]
      rw [e]
      refine ⟨.sh, ?_⟩
      refine EV_post rfl Tryz.func82 rfl (by simp [Tryz.ntmps82]) (by kernel_rfl) (by kernel_rfl) ?_
      simp (maxSteps := 4000000) [List.getElem?_cons_zero, List.getElem?_cons_succ, Tryz.results82]
end Go.Proofs.Tryz.Ai
end
section
/- What is lent: copies with one byte more behind them. -/
namespace Go.Proofs.Tryz.Ai
open Go Go.AI Go.Proofs
set_option maxHeartbeats 1000000
set_option linter.unusedVariables false

theorem BytesM_eq (o : Own) (x : UInt8) (l : List UInt8) (hl : l.length ≤ 2 ^ 39) (σ) : ev (100000 + 72) [.sl o ((x :: l).map .u8)] σ = some (.ms 5 1 σ.length 0 (l.length + 1), σ ++ [(x :: l).map .u8]) := by
  refine EV_post rfl Tryz.func72 rfl (by simp [Tryz.ntmps72]) (by kernel_rfl) (by kernel_rfl) ?_
  simp (maxSteps := 4000000) [List.getElem?_cons_zero, List.getElem?_cons_succ, Tryz.results72]
  repeat (rw [need_of]; rotate_left; (· (try unfold most); omega); simp (maxSteps := 4000000) [List.getElem?_cons_zero, List.getElem?_cons_succ, Tryz.results72])
theorem BytesM_nil (o : Own) (σ) : ev (100000 + 72) [.sl o []] σ = some (.sl (.ex 5 1) [], σ) := by
  refine EV_post rfl Tryz.func72 rfl (by simp [Tryz.ntmps72]) (by kernel_rfl) (by kernel_rfl) ?_
  simp (maxSteps := 4000000) [List.getElem?_cons_zero, List.getElem?_cons_succ, Tryz.results72]
  repeat (rw [need_of]; rotate_left; (· (try unfold most); omega); simp (maxSteps := 4000000) [List.getElem?_cons_zero, List.getElem?_cons_succ, Tryz.results72])
theorem Lent_eq (l : List UInt8) (hl : l.length ≤ 2 ^ 38) (σ : List (List AV)) : ∃ b j, ev 31 [.sl .sh (l.map .u8)] σ = some (.ms 5 1 b 0 l.length, σ ++ j) ∧ (σ ++ j)[b]? = some ((l ++ [201]).map .u8) ∧ σ.length ≤ b := by
  cases l with
  | nil =>
    have h := BytesM_nil .sh
    refine ⟨σ.length, [[.u8 201]], ?_, by simp, Nat.le_refl _⟩
    refine EV_post rfl Tryz.func31 rfl (by simp [Tryz.ntmps31]) (by kernel_rfl) (by kernel_rfl) ?_
    simp (maxSteps := 4000000) [List.getElem?_cons_zero, List.getElem?_cons_succ, h, Tryz.results31]
    repeat (rw [need_of]; rotate_left; (· (try unfold most); omega); simp (maxSteps := 4000000) [List.getElem?_cons_zero, List.getElem?_cons_succ, h, Tryz.results31])
  | cons x l =>
    have h := BytesM_eq .sh x l (by simp at hl; omega)
    refine ⟨σ.length + 1, [[], (x :: (l ++ [201])).map .u8], ?_, by simp, by omega⟩
    simp at h hl
    refine EV_post rfl Tryz.func31 rfl (by simp [Tryz.ntmps31]) (by kernel_rfl) (by kernel_rfl) ?_
    simp (maxSteps := 4000000) [List.getElem?_cons_zero, List.getElem?_cons_succ, h, Tryz.results31]
    repeat (rw [need_of]; rotate_left; (· (try unfold most); omega); simp (maxSteps := 4000000) [List.getElem?_cons_zero, List.getElem?_cons_succ, h, Tryz.results31])
theorem SameBytesM_eq (b : Nat) (k : Nat) (c : List UInt8) (l : List UInt8) (hl : l.length ≤ 2 ^ 39) (σ : List (List AV)) (hb : σ[b]? = some (c.map .u8)) (hk : k ≤ c.length) :
    ev 17 [.ms 5 1 b 0 k, .sl .sh (l.map .u8)] σ = some (.bool (c.take k == l), σ) := by
  refine EV_post rfl Tryz.func17 rfl (by simp [Tryz.ntmps17]) (by kernel_rfl) (by kernel_rfl) ?_
  by_cases hkl : k = l.length
  · subst hkl
    simp (maxSteps := 4000000) [List.getElem?_cons_zero, List.getElem?_cons_succ, ]
    refine Post_loop (I := fun i : Nat => ⟨[(0, .ms 5 1 b 0 l.length), (1, .sl .sh (l.map .u8)), (5, .int .i64 i)], [], σ⟩) (Pr := fun i => i ≤ l.length ∧ c.take i = l.take i) (μ := fun i => l.length - i) (a := 0) (by simp) (by simp) ?_
    rintro i ⟨hi, hn⟩
    by_cases hc : i < l.length
    · obtain ⟨x, hx⟩ : ∃ x, l[i]? = some x := ⟨_, List.getElem?_eq_getElem hc⟩
      obtain ⟨y, hy⟩ : ∃ x, c[i]? = some x := ⟨_, List.getElem?_eq_getElem (by omega)⟩
      have w1 : IntKind.i64.wrap ((i : Int) + 1) = (i : Int) + 1 := wrap64 (by omega)
      by_cases hxy : y = x
      · subst hxy
        simp (maxSteps := 4000000) [List.getElem?_cons_zero, List.getElem?_cons_succ, -getElem?_pos, hc, hb, hx, hy, w1]
        exact ⟨i + 1, ⟨by omega, by rw [List.take_add_one, List.take_add_one, hx, hy, hn]⟩, by omega, by simp⟩
      · have hne : ¬ List.take l.length c = l := by
          intro e
          rw [← e, List.getElem?_take, if_pos hc, hy] at hx
          exact hxy (by simpa using hx)
        simp (maxSteps := 4000000) [List.getElem?_cons_zero, List.getElem?_cons_succ, -getElem?_pos, hc, hb, hx, hy, hxy, hne, Tryz.results17]
    · have he : List.take l.length c = l := by
        have : i = l.length := by omega
        subst this
        rw [hn]; simp
      simp (maxSteps := 4000000) [List.getElem?_cons_zero, List.getElem?_cons_succ, hc, he, Tryz.results17]
  · have hne : (c.take k == l) = false := by
      rw [beq_eq_false_iff_ne]; intro e
      rw [← e] at hkl; simp at hkl; omega
    simp (maxSteps := 4000000) [List.getElem?_cons_zero, List.getElem?_cons_succ, hkl, hne, Tryz.results17]
theorem Kept_eq (b : Nat) (l : List UInt8) (n : Nat) (hn : l.length = n) (hl : n ≤ 2 ^ 38) (σ : List (List AV)) (hb : σ[b]? = some ((l ++ [201]).map .u8)) : ev 33 [.ms 5 1 b 0 n, .sl .sh (l.map .u8)] σ = some (.bool true, σ) := by
  have h := SameBytesM_eq b n (l ++ [201]) l (by omega) σ hb (by simp; omega)
  have e : ((l ++ [201]).take n == l) = true := by subst hn; simp
  rw [e] at h
  have w1 : IntKind.i64.wrap ((n : Int) + 1) = ((n + 1 : Nat) : Int) := by rw [wrap64 (by omega)]; omega
  have hlen : n + 1 ≤ ((l ++ [201]).map AV.u8).length := by simp; omega
  have hlast : ((l ++ [201]).map AV.u8)[n]? = some (.u8 201) := by subst hn; simp
  obtain ⟨C, hC⟩ : ∃ C, (l ++ [201]).map AV.u8 = C := ⟨_, rfl⟩
  rw [hC] at hb hlen hlast
  obtain ⟨m, hm⟩ : ∃ m, n + 1 = m := ⟨_, rfl⟩
  have q1 : n < m := by omega
  rw [hm] at w1 hlen
  refine EV_post rfl Tryz.func33 rfl (by simp [Tryz.ntmps33]) (by kernel_rfl) (by kernel_rfl) ?_
  simp (maxSteps := 4000000) [List.getElem?_cons_zero, List.getElem?_cons_succ, -getElem?_pos, h, w1, hb, hlen, hlast, hn, q1, Tryz.results33]
end Go.Proofs.Tryz.Ai
end
section
/- A log in memory: its rows of hashes. -/
namespace Go.Proofs.Tryz.Ai
open Go Go.AI Go.Proofs
set_option maxHeartbeats 1000000
set_option linter.unusedVariables false

def rowO (r : List (List UInt8)) : Own := if r = [] then .nil else .ex 35 1
def rowA (r : List (List UInt8)) : AV := .sl (rowO r) (hs r)
/-- a log stands in boxes p and q -/
structure LogAt (s : List (List AV)) (p q : Nat) (rows : List (List (List UInt8))) : Prop where
  log : s[p]? = some [.ms 22 1 q 0 rows.length]
  row : s[q]? = some (rows.map rowA)
  ne : p ≠ q
  pos : rows ≠ []
def logP (p : Nat) : AV := .gp p 0 (some (80, 1))
theorem LogAt.plt {s : List (List AV)} {p q : Nat} {rows : List (List (List UInt8))} (h : LogAt s p q rows) : p < s.length := (List.getElem?_eq_some_iff.1 h.log).1
theorem LogAt.qlt {s : List (List AV)} {p q : Nat} {rows : List (List (List UInt8))} (h : LogAt s p q rows) : q < s.length := (List.getElem?_eq_some_iff.1 h.row).1
theorem LogAt.app {s j : List (List AV)} {p q : Nat} {rows : List (List (List UInt8))} (h : LogAt s p q rows) : LogAt (s ++ j) p q rows :=
  ⟨by rw [List.getElem?_append_left h.plt]; exact h.log, by rw [List.getElem?_append_left h.qlt]; exact h.row, h.ne, h.pos⟩
theorem LogAt.keep {s s' : List (List AV)} {p q : Nat} {rows : List (List (List UInt8))} (h : LogAt s p q rows) (hp : s'[p]? = s[p]?) (hq : s'[q]? = s[q]?) : LogAt s' p q rows :=
  ⟨by rw [hp]; exact h.log, by rw [hq]; exact h.row, h.ne, h.pos⟩
theorem New_eq (σ : List (List AV)) : ∃ s p q, ev 30 [] σ = some (logP p, σ ++ s) ∧ LogAt (σ ++ s) p q [[]] ∧ σ.length ≤ p ∧ σ.length ≤ q := by
  refine ⟨[[.sl .nil []], [.ms 22 1 σ.length 0 1]], σ.length + 1, σ.length, ?_, ⟨by simp, by simp [rowA, rowO, hs], by omega, by simp⟩, by omega, by omega⟩
  refine EV_post rfl Tryz.func30 rfl (by simp [Tryz.ntmps30]) (by kernel_rfl) (by kernel_rfl) ?_
  simp (maxSteps := 4000000) [List.getElem?_cons_zero, List.getElem?_cons_succ, Tryz.results30]
  rfl
theorem Size_eq (s : List (List AV)) (p q : Nat) (rows : List (List (List UInt8))) (r : List (List UInt8)) (h : LogAt s p q rows) (hr : rows[0]? = some r) : ev 48 [logP p] s = some (.int .i64 r.length, s) := by
  have h1 := h.log
  have h2 := h.row
  have h3 : (rows.map rowA)[0]? = some (rowA r) := by rw [List.getElem?_map, hr]; rfl
  have h4 : 0 < rows.length := (List.getElem?_eq_some_iff.1 hr).1
  generalize rows.map rowA = R at *
  refine EV_post rfl Tryz.func48 rfl (by simp [Tryz.ntmps48]) (by kernel_rfl) (by kernel_rfl) ?_
  simp (maxSteps := 4000000) [List.getElem?_cons_zero, List.getElem?_cons_succ, -getElem?_pos, logP, h1, h2, h3, h4, rowA, Tryz.results48]
theorem LeafM_eq (b : Nat) (l : List UInt8) (n : Nat) (hn : l.length = n) (hl : n + 1 ≤ 2 ^ 30) (s : List (List AV)) (hb : s[b]? = some ((l ++ [201]).map .u8)) : ev 27 [.ms 5 1 b 0 n] s = some (.sl (.ex 5 1) ((sha256 (0 :: l)).map .u8), s) := by
  have h := SHA256_eq .sh (0 :: l) (by simp; omega)
  have hlen : n ≤ ((l ++ [201]).map AV.u8).length := by simp; omega
  have ht : List.take n ((l ++ [201]).map AV.u8) = l.map .u8 := by subst hn; simp
  obtain ⟨C, hC⟩ : ∃ C, (l ++ [201]).map AV.u8 = C := ⟨_, rfl⟩
  rw [hC] at hb hlen ht
  have h' : ∀ σ, ev 70 [.sl .sh (.int .u8 0 :: l.map .u8)] σ = some (.sl (.ex 5 1) ((sha256 (0 :: l)).map .u8), σ) := fun σ => h σ
  refine EV_post rfl Tryz.func27 rfl (by simp [Tryz.ntmps27]) (by kernel_rfl) (by kernel_rfl) ?_
  simp (maxSteps := 4000000) [List.getElem?_cons_zero, List.getElem?_cons_succ, h', hb, hlen, ht, hn, Tryz.results27]
  repeat (rw [need_of]; rotate_left; (· (try unfold most); omega); simp (maxSteps := 4000000) [List.getElem?_cons_zero, List.getElem?_cons_succ, h', hb, hlen, ht, hn, Tryz.results27])
end Go.Proofs.Tryz.Ai
end
section
/- A record is laid at a log's end. -/
namespace Go.Proofs.Tryz.Ai
open Go Go.AI Go.Proofs
set_option maxHeartbeats 1000000
set_option linter.unusedVariables false

theorem rowA_app (r : List (List UInt8)) (h : List UInt8) : AV.sl (.ex 35 1) (hs r ++ [.sl .sh (h.map .u8)]) = rowA (r ++ [h]) := by
  simp [rowA, rowO, hs]
theorem LogAt.set {s : List (List AV)} {p q k : Nat} {rows : List (List (List UInt8))} (h : LogAt s p q rows) (r : List (List UInt8)) (hk : k < rows.length) :
    LogAt (s.set q ((rows.map rowA).set k (rowA r))) p q (rows.set k r) := by
  refine ⟨?_, ?_, h.ne, ?_⟩
  · rw [List.getElem?_set, if_neg (fun e => h.ne e.symm), h.log]; simp
  · rw [List.getElem?_set, if_pos rfl, if_pos h.qlt, List.map_set]
  · intro e; have := congrArg List.length e; simp at this; exact h.pos this
theorem LogAt.grow {s : List (List AV)} {p q : Nat} {rows : List (List (List UInt8))} (h : LogAt s p q rows) :
    LogAt ((s.set q [] ++ [rows.map rowA ++ [AV.sl .nil []]]).set p [.ms 22 1 s.length 0 (rows.length + 1)]) p s.length (rows ++ [[]]) := by
  have hp := h.plt
  refine ⟨?_, ?_, by omega, by simp⟩
  · rw [List.getElem?_set, if_pos rfl, if_pos (by simp; omega)]; simp
  · rw [List.getElem?_set, if_neg (by omega), List.getElem?_append_right (by simp)]; simp [rowA, rowO, hs]
/-- rows that are not too long -/
def RowsOk (rows : List (List (List UInt8))) : Prop := rows.length ≤ 60 ∧ ∀ r ∈ rows, r.length ≤ 2 ^ 21 ∧ ∀ x ∈ r, x.length ≤ 2 ^ 20
structure AppSt where
  k : Nat
  rows : List (List (List UInt8))
  h : List UInt8
  s : List (List AV)
theorem set_same (C : List AV) (k : Nat) (d v : AV) (hk : k < C.length) : (C.set k d).take k ++ v :: (C.set k d).drop (k + 1) = C.set k v := by
  have h1 : (C.set k d).set k v = C.set k v := List.set_set ..
  rw [← h1, List.set_eq_take_append_cons_drop (l := C.set k d), if_pos (by simpa using hk)]
/-- how the boxes stand, on the way -/
structure AppOk (s0 : List (List AV)) (p q0 : Nat) (goal : List (List (List UInt8))) (x : AppSt) (q : Nat) : Prop where
  log : LogAt x.s p q x.rows
  ok : x.rows.length ≤ 60 ∧ ∀ r ∈ x.rows.drop x.k, r.length ≤ 2 ^ 21 ∧ ∀ y ∈ r, y.length ≤ 2 ^ 20
  hl : x.h.length ≤ 2 ^ 20
  le : x.k ≤ x.rows.length
  goal : x.rows.take x.k ++ pushB nodeB [] (x.rows.drop x.k) x.h = goal
  frame : ∀ b, b < s0.length → b ≠ p → b ≠ q0 → x.s[b]? = s0[b]?
  len : s0.length ≤ x.s.length
  eq : q = q0
theorem Append_core (s : List (List AV)) (p q b n : Nat) (rows : List (List (List UInt8))) (r0 : List (List UInt8)) (h0 : List UInt8) (hlog : LogAt s p q rows) (hr : rows[0]? = some r0) (h20 : r0.length < 1048576) (hok : RowsOk rows) (hh : h0.length ≤ 2 ^ 20)
    (hleaf : ev 27 [.ms 5 1 b 0 n] s = some (.sl (.ex 5 1) (h0.map .u8), s)) :
    ∃ r, ev 32 [logP p, .ms 5 1 b 0 n] s = some r ∧ ∃ s' q', r = (.tup [.int .i64 r0.length, .int .i64 0], s') ∧ LogAt s' p q' (pushB nodeB [] rows h0) ∧
      (∀ b, b < s.length → b ≠ p → b ≠ q → s'[b]? = s[b]?) ∧ s.length ≤ s'.length ∧ (q' = q ∨ s.length ≤ q') := by
  have hsz := Size_eq s p q rows r0 hlog hr
  have c1 : ¬ (1048576 : Int) ≤ (r0.length : Int) := by omega
  have c2 : ¬ 1048576 ≤ r0.length := by omega
  obtain ⟨goal, hgoal⟩ : ∃ g, pushB nodeB [] rows h0 = g := ⟨_, rfl⟩
  rw [hgoal]
  simp only [logP] at hsz ⊢
  refine EV_postE rfl Tryz.func32 rfl (by simp [Tryz.ntmps32]) (by kernel_rfl) (by kernel_rfl) ?_
  simp (maxSteps := 4000000) [List.getElem?_cons_zero, List.getElem?_cons_succ, hsz, c1, c2, hleaf]
  refine Post_loop (I := fun x : AppSt => ⟨[(0, logP p), (6, .int .i64 r0.length), (7, .sl (.ex 5 1) (x.h.map .u8)), (8, .int .i64 x.k)], [], x.s⟩) (Pr := fun x => AppOk s p q goal x q) (μ := fun x => x.rows.length - x.k) (a := ⟨0, rows, h0, s⟩) (by simp [logP])
    ⟨hlog, ⟨hok.1, by simpa using hok.2⟩, hh, Nat.zero_le _, by simpa using hgoal, fun _ _ _ _ => rfl, Nat.le_refl _, rfl⟩ ?_
  rintro ⟨k, rows, h, s1⟩ ⟨hl, hok, hhl, hk, hto, hfr, hlen, _⟩
  simp only at hl hok hhl hk hto hfr hlen ⊢
  have e1 := hl.log
  have e2 := hl.row
  by_cases hkn : k < rows.length
  · obtain ⟨r, hr⟩ : ∃ r, rows[k]? = some r := ⟨_, List.getElem?_eq_getElem hkn⟩
    have e3 : (rows.map rowA)[k]? = some (rowA r) := by rw [List.getElem?_map, hr]; rfl
    have hS := hl.set (r ++ [h]) hkn
    have hdrop : rows.drop k = r :: rows.drop (k + 1) := by rw [List.drop_eq_getElem_cons hkn]; congr 1; exact (List.getElem?_eq_some_iff.1 hr).2
    obtain ⟨hr1, hr2⟩ := hok.2 r (by rw [hdrop]; simp)
    have hC : (rows.map rowA).length = rows.length := by simp
    have e4 : ∀ d v : AV, ((rows.map rowA).set k d).take k ++ v :: ((rows.map rowA).set k d).drop (k + 1) = (rows.map rowA).set k v := fun d v => set_same _ k d v (by simpa using hkn)
    have e5 : ∀ X, (s1.set q X)[p]? = some [.ms 22 1 q 0 rows.length] := fun X => by rw [List.getElem?_set, if_neg (fun e => hl.ne e.symm)]; exact e1
    have e6 : ∀ X, (s1.set q X)[q]? = some X := fun X => by rw [List.getElem?_set, if_pos rfl, if_pos hl.qlt]
    have hkne : ¬ k = rows.length := by omega
    have hrow := rowA_app r h
    generalize hRows : rows.map rowA = C at *
    have hk1 : k + 1 ≤ rows.length := by omega
    have hn1 : r.length + 1 ≤ most := by unfold most; omega
    have hS' : LogAt (s1.set q (C.set k (.sl (.ex 35 1) (hs r ++ [.sl .sh (h.map .u8)])))) p q (rows.set k (r ++ [h])) := by rw [hrow]; exact hS
    have hfr' : ∀ X, ∀ b, b < s.length → b ≠ p → b ≠ q → (s1.set q X)[b]? = s[b]? := fun X b h1 h2 h3 => by rw [List.getElem?_set, if_neg (fun e => h3 e.symm)]; exact hfr b h1 h2 h3
    have hlen' : ∀ X, s.length ≤ (s1.set q X).length := fun X => by simpa using hlen
    rw [hdrop, pushB] at hto
    have hsetk : rows.set k (r ++ [h]) = rows.take k ++ (r ++ [h]) :: rows.drop (k + 1) := by rw [List.set_eq_take_append_cons_drop, if_pos hkn]
    by_cases hev : r.length % 2 = 0
    · rw [if_pos hev, ← hsetk] at hto
      have hto' := hto
      rw [hto] at hS'
      have m1 : ((r.length : Int) + 1).tmod 2 = 1 := by rw [Int.tmod_eq_emod_of_nonneg (by omega)]; omega
      clear hS hdrop hsetk
      cases r with
      | nil =>
        have e3' : C[k]? = some (.sl .nil []) := e3
        have hS'' : LogAt (s1.set q (C.set k (.sl (.ex 35 1) [.sl .sh (h.map .u8)]))) p q goal := hS'
        simp (maxSteps := 4000000) [List.getElem?_cons_zero, List.getElem?_cons_succ, -getElem?_pos, logP, e1, e2, e3', e4, e5, e6, hkn, hkne, hk1, hC, Tryz.results32]
        repeat (rw [need_of]; rotate_left; (· (try unfold most); omega); simp (maxSteps := 4000000) [List.getElem?_cons_zero, List.getElem?_cons_succ, -getElem?_pos, logP, e1, e2, e3', e4, e5, e6, hkn, hkne, hk1, hC, Tryz.results32])
        exact ⟨_, _, ⟨rfl, rfl⟩, _, ⟨rfl, rfl⟩, q, hS'', fun b h1 h2 h3 => hfr' _ b h1 h2 h3, hlen' _, .inl rfl⟩
      | cons x r =>
        have e3' : C[k]? = some (.sl (.ex 35 1) (hs (x :: r))) := e3
        have hXl : (hs (x :: r)).length = (x :: r).length := by simp [hs]
        obtain ⟨X, hX⟩ : ∃ X, hs (x :: r) = X := ⟨_, rfl⟩
        obtain ⟨z, hz⟩ : ∃ z, (x :: r).length = z := ⟨_, rfl⟩
        rw [hX] at e3' hXl hS'
        rw [hz] at hXl m1 hn1
        simp (maxSteps := 4000000) [List.getElem?_cons_zero, List.getElem?_cons_succ, -getElem?_pos, logP, e1, e2, e3', e4, e5, e6, hkn, hkne, hk1, hC, hXl, need_of hn1, m1, Tryz.results32]
        repeat (rw [need_of]; rotate_left; (· (try unfold most); omega); simp (maxSteps := 4000000) [List.getElem?_cons_zero, List.getElem?_cons_succ, -getElem?_pos, logP, e1, e2, e3', e4, e5, e6, hkn, hkne, hk1, hC, hXl, need_of hn1, m1, Tryz.results32])
        exact ⟨_, _, ⟨rfl, rfl⟩, _, ⟨rfl, rfl⟩, q, hS', fun b h1 h2 h3 => hfr' _ b h1 h2 h3, hlen' _, .inl rfl⟩
    · rw [if_neg hev] at hto
      have m1 : ((r.length : Int) + 1).tmod 2 = 0 := by rw [Int.tmod_eq_emod_of_nonneg (by omega)]; omega
      obtain ⟨g, hg⟩ : ∃ g, r[r.length - 1]? = some g := ⟨_, List.getElem?_eq_getElem (by omega)⟩
      have hgl : r.getLast?.getD [] = g := by rw [List.getLast?_eq_getElem?, hg]; rfl
      rw [hgl] at hto
      have hgb := hr2 g (List.mem_of_getElem? hg)
      have hN := Node_eq .sh .sh g h (by omega) (by omega)
      have hro : rowA r = .sl (.ex 35 1) (hs r) := by unfold rowA rowO; rw [if_neg (by intro e; subst e; simp at hev)]
      rw [hro] at e3
      have hXl : (hs r).length = r.length := by simp [hs]
      have hXg : (hs r ++ [AV.sl .sh (h.map .u8)])[r.length - 1]? = some (.sl .sh (g.map .u8)) := by
        rw [List.getElem?_append_left (by rw [hXl]; omega)]; simp [hs, hg]
      have w1 : IntKind.i64.wrap ((r.length : Int) + 1 - 2) = ((r.length - 1 : Nat) : Int) := by rw [wrap64 (by omega)]; omega
      have w2 : IntKind.i64.wrap ((k : Int) + 1) = ((k + 1 : Nat) : Int) := by rw [wrap64 (by omega)]; omega
      have hzlt : r.length - 1 < r.length + 1 := by omega
      obtain ⟨X, hX⟩ : ∃ X, hs r = X := ⟨_, rfl⟩
      obtain ⟨z, hz⟩ : ∃ z, r.length = z := ⟨_, rfl⟩
      rw [hX] at e3 hXl hXg hS'
      rw [hz] at hXl m1 hn1 hXg w1 hzlt
      simp (maxSteps := 4000000) [List.getElem?_cons_zero, List.getElem?_cons_succ, -getElem?_pos, logP, e1, e2, e3, e4, e5, e6, hkn, hkne, hk1, hC, hXl, hXg, hzlt, w1, w2, need_of hn1, m1, hN]
      repeat (rw [need_of]; rotate_left; (· (try unfold most); omega); simp (maxSteps := 4000000) [List.getElem?_cons_zero, List.getElem?_cons_succ, -getElem?_pos, logP, e1, e2, e3, e4, e5, e6, hkn, hkne, hk1, hC, hXl, hXg, hzlt, w1, w2, need_of hn1, m1, hN])
      have hsplit : rows.take k ++ (r ++ [h]) :: rows.drop (k + 1) = (rows.take k ++ [r ++ [h]]) ++ rows.drop (k + 1) := by simp
      have hspl : (rows.take k ++ [r ++ [h]]).length = k + 1 := by simp; omega
      refine ⟨⟨k + 1, rows.set k (r ++ [h]), nodeB g h, _⟩, ⟨hS', ⟨by simpa using hok.1, fun y hy => ?_⟩, by rw [nodeB_len]; omega, by simp only [List.length_set]; omega, ?_, fun b h1 h2 h3 => hfr' _ b h1 h2 h3, hlen' _, rfl⟩, by simp; omega, ⟨rfl, by simp⟩, rfl⟩
      · refine hok.2 y ?_
        rw [hdrop]
        simp only [hsetk] at hy
        rw [hsplit, List.drop_left' hspl] at hy
        exact List.mem_cons_of_mem _ hy
      · simp only [hsetk]
        rw [hsplit, List.drop_left' hspl, List.take_left' hspl, ← hto]
        simp
  · have hkn' : k = rows.length := by omega
    subst hkn'
    have hG := hl.grow
    have hC : (rows.map rowA).length = rows.length := by simp
    rw [List.take_of_length_le (Nat.le_refl _), List.drop_of_length_le (Nat.le_refl _), pushB] at hto
    have hn1 : rows.length + 1 ≤ most := by unfold most; omega
    have hpos : 0 < rows.length := List.length_pos_iff.2 hl.pos
    have hpl := hl.plt
    have hql := hl.qlt
    have hS := hG.set [h] (k := rows.length) (by simp)
    have e7 : s1.set p [.ms 22 1 q 0 rows.length] = s1 := by
      apply List.ext_getElem?
      intro i
      rw [List.getElem?_set]
      by_cases e : p = i
      · subst e; rw [if_pos rfl, if_pos hpl, e1]
      · rw [if_neg e]
    have f0 : (s1.set q [] ++ [rows.map rowA ++ [AV.sl .nil []]])[p]? = some [.ms 22 1 q 0 rows.length] := by
      rw [List.getElem?_append_left (by simpa using hpl), List.getElem?_set, if_neg (fun e => hl.ne e.symm), e1]
    have fr3 : ∀ b, b < s.length → b ≠ p → b ≠ q → ((s1.set q [] ++ [rows.map rowA ++ [AV.sl .nil []]]).set p [.ms 22 1 s1.length 0 (rows.length + 1)])[b]? = s[b]? := by
      intro b h1 h2 h3
      rw [List.getElem?_set, if_neg (fun e => h2 e.symm), List.getElem?_append_left (by simp; omega), List.getElem?_set, if_neg (fun e => h3 e.symm), hfr b h1 h2 h3]
    have len3 : ((s1.set q [] ++ [rows.map rowA ++ [AV.sl .nil []]]).set p [.ms 22 1 s1.length 0 (rows.length + 1)]).length = s1.length + 1 := by simp
    have g1 := hG.log
    have g2 := hG.row
    have g5 : ∀ X, ((((s1.set q [] ++ [rows.map rowA ++ [AV.sl .nil []]]).set p [.ms 22 1 s1.length 0 (rows.length + 1)]).set s1.length X))[p]? = some [.ms 22 1 s1.length 0 (rows.length + 1)] := fun X => by
      rw [List.getElem?_set, if_neg (by omega), g1]; simp
    have g6 : ∀ X, ((((s1.set q [] ++ [rows.map rowA ++ [AV.sl .nil []]]).set p [.ms 22 1 s1.length 0 (rows.length + 1)]).set s1.length X))[s1.length]? = some X := fun X => by
      rw [List.getElem?_set, if_pos rfl, if_pos (by simp)]
    have hlow : (rows ++ [[]]).length = rows.length + 1 := by simp
    rw [hlow] at g1
    have g2' : ((s1.set q [] ++ [rows.map rowA ++ [AV.sl .nil []]]).set p [.ms 22 1 s1.length 0 (rows.length + 1)])[s1.length]? = some (rows.map rowA ++ [AV.sl .nil []]) := by rw [g2]; simp [rowA, rowO, hs]
    have hto2 : (rows ++ [[]]).set rows.length [h] = goal := by rw [← hto]; simp
    have hcel : ((rows ++ [[]]).map rowA).set rows.length (rowA [h]) = (rows.map rowA ++ [AV.sl .nil []]).set rows.length (.sl (.ex 35 1) [.sl .sh (h.map .u8)]) := by simp [rowA, rowO, hs]
    rw [hto2, hcel] at hS
    generalize hRows : rows.map rowA = C at *
    have g3 : (C ++ [AV.sl .nil []])[rows.length]? = some (.sl .nil []) := by rw [← hC]; simp
    have g4 : ∀ d v : AV, ((C ++ [AV.sl .nil []]).set rows.length d).take rows.length ++ v :: ((C ++ [AV.sl .nil []]).set rows.length d).drop (rows.length + 1) = (C ++ [AV.sl .nil []]).set rows.length v := fun d v => set_same _ _ d v (by simp; omega)
    have hlC : (C ++ [AV.sl .nil []]).length = rows.length + 1 := by simp [hC]
    obtain ⟨s2, hs2⟩ : ∃ s2, s1.set q [] ++ [C ++ [AV.sl .nil []]] = s2 := ⟨_, rfl⟩
    obtain ⟨C2, hC2⟩ : ∃ C2, C ++ [AV.sl .nil []] = C2 := ⟨_, rfl⟩
    rw [hC2] at g3 g4 hlC g2' hs2 hS fr3 len3 f0 g1 g5 g6
    rw [hs2] at f0 fr3 len3 g1 g5 g6 g2' hS
    obtain ⟨s3, hs3⟩ : ∃ s3, s2.set p [.ms 22 1 s1.length 0 (rows.length + 1)] = s3 := ⟨_, rfl⟩
    rw [hs3] at fr3 len3 g1 g5 g6 g2' hS
    have hrl : rows.length < rows.length + 1 := by omega
    simp (maxSteps := 4000000) [List.getElem?_cons_zero, List.getElem?_cons_succ, -getElem?_pos, logP, e1, e2, e7, hpos, hC, need_of hn1, hC2, hs2, f0, hs3, g1, g2', g3, g4, g5, g6, hlC, hrl, Tryz.results32]
    repeat (rw [need_of]; rotate_left; (· (try unfold most); omega); simp (maxSteps := 4000000) [List.getElem?_cons_zero, List.getElem?_cons_succ, -getElem?_pos, logP, e1, e2, e7, hpos, hC, need_of hn1, hC2, hs2, f0, hs3, g1, g2', g3, g4, g5, g6, hlC, hrl, Tryz.results32])
    refine ⟨_, _, ⟨rfl, rfl⟩, _, ⟨rfl, rfl⟩, s1.length, hS, fun b h1 h2 h3 => ?_, by simp; omega, .inr hlen⟩
    rw [List.getElem?_set, if_neg (by omega)]
    exact fr3 b h1 h2 h3
end Go.Proofs.Tryz.Ai
end
section
/- A log of records, made. -/
namespace Go.Proofs.Tryz.Ai
open Go Go.AI Go.Proofs
set_option maxHeartbeats 1000000
set_option linter.unusedVariables false

def leafB (l : List UInt8) : List UInt8 := sha256 (0 :: l)
theorem leafB_len (l : List UInt8) : (leafB l).length = 32 := sha256_len _
theorem tfresh_eq (o : Own) (l : List UInt8) (hl : l.length ≤ 2 ^ 39) (σ) : ev 46 [.sl o (l.map .u8)] σ = some (.sl (.ex 5 1) (l.map .u8), σ) := by
  refine EV_post rfl Tryz.func46 rfl (by simp [Tryz.ntmps46]) (by kernel_rfl) (by kernel_rfl) ?_
  simp (maxSteps := 4000000) [List.getElem?_cons_zero, List.getElem?_cons_succ, Tryz.results46]
  repeat (rw [need_of]; rotate_left; (· (try unfold most); omega); simp (maxSteps := 4000000) [List.getElem?_cons_zero, List.getElem?_cons_succ, Tryz.results46])
theorem rLeaf_eq (o : Own) (l : List UInt8) (hl : l.length + 1 ≤ 2 ^ 30) (σ) : ev 34 [.sl o (l.map .u8)] σ = some (.sl (.ex 5 1) ((leafB l).map .u8), σ) := by
  have h := rSHA256_eq .sh (0 :: l) (by simp; omega)
  have h' : ∀ σ, ev 74 [.sl .sh (.int .u8 0 :: l.map .u8)] σ = some (.sl (.ex 5 1) ((leafB l).map .u8), σ) := fun σ => h σ
  refine EV_post rfl Tryz.func34 rfl (by simp [Tryz.ntmps34]) (by kernel_rfl) (by kernel_rfl) ?_
  simp (maxSteps := 4000000) [List.getElem?_cons_zero, List.getElem?_cons_succ, h', Tryz.results34]
  repeat (rw [need_of]; rotate_left; (· (try unfold most); omega); simp (maxSteps := 4000000) [List.getElem?_cons_zero, List.getElem?_cons_succ, h', Tryz.results34])
/-- the rows of some leaves -/
def rowsB (l : List (List UInt8)) : List (List (List UInt8)) := l.foldl (pushB nodeB []) [[]]
def leafF (l : List (List UInt8)) (i : Nat) : List UInt8 := l.getD i []
theorem rowsB_up (l : List (List UInt8)) (k : Nat) (hk : k ≤ l.length) : rowsB (l.take k) = upT nodeB (leafF l) 0 k :=
  fold_up l (fun i x h => by simp [leafF, List.getD, h]) k hk
theorem wholeT_len (L : Nat → List UInt8) (l : Nat) (k : Nat) (h : ∀ i, (L i).length ≤ 2 ^ 20) : (wholeT nodeB L l k).length ≤ 2 ^ 20 := by
  cases l with
  | zero => exact h k
  | succ l => rw [wholeT, nodeB_len]; omega
theorem up_ok (L : Nat → List UInt8) (n : Nat) (hn : n < 2 ^ 21) (h : ∀ i, (L i).length ≤ 2 ^ 20) : RowsOk (upT nodeB L 0 n) := by
  constructor
  · refine Nat.le_trans (upT_len_neg (j := 60) ?_) (Nat.le_refl _)
    have : n / 2 ^ 60 = 0 := Nat.div_eq_of_lt (by omega)
    simp [this]
  · intro r hr
    obtain ⟨j, hj⟩ := List.mem_iff_getElem?.1 hr
    rw [upT_get] at hj
    split at hj
    · injection hj with hj
      subst hj
      rw [rowT_len]
      refine ⟨Nat.le_trans (Nat.div_le_self _ _) (by omega), fun x hx => ?_⟩
      obtain ⟨k, _, rfl⟩ := List.mem_map.1 hx
      exact wholeT_len L _ k h
    · cases hj
theorem leafF_len (l : List (List UInt8)) (h : ∀ x ∈ l, x.length ≤ 2 ^ 20) (i : Nat) : (leafF l i).length ≤ 2 ^ 20 := by
  unfold leafF
  rw [List.getD_eq_getElem?_getD]
  cases hx : l[i]? with
  | none => simp
  | some x => simpa using h x (List.mem_of_getElem? hx)
structure MadeSt where
  i : Nat
  s : List (List AV)
  p : Nat
  q : Nat
structure MadeOk (σ : List (List AV)) (l : List (List UInt8)) (x : MadeSt) : Prop where
  le : x.i ≤ l.length
  log : LogAt x.s x.p x.q (rowsB (l.take x.i))
  pre : ∀ b, b < σ.length → x.s[b]? = σ[b]?
  len : σ.length ≤ x.s.length
  hp : σ.length ≤ x.p
  hq : σ.length ≤ x.q
theorem log_ne (p : Nat) (sh : Option (TypeId × Nat)) : bin Tryz.prog .neq true 25 (.gp p 0 sh) .nilp = some (.bool true) := by
  have h : Tryz.prog.underlying 25 = some (.pointer (Tryz.prog.pointee 25)) := by kernel_rfl
  simp only [bin, isNilP, bnd_some]
  rw [need_of h]; rfl
theorem made_eq (l : List (List UInt8)) (hl : l.length ≤ 1000) (hx : ∀ x ∈ l, x.length ≤ 2 ^ 28) (σ : List (List AV)) :
    ∃ r, ev 8 [.sl .sh (hs l)] σ = some r ∧ ∃ s p q, r = (.tup [logP p, .sl .sh (hs (l.map leafB))], s) ∧ LogAt s p q (rowsB (l.map leafB)) ∧ (∀ b, b < σ.length → s[b]? = σ[b]?) ∧ σ.length ≤ s.length ∧ σ.length ≤ p ∧ σ.length ≤ q := by
  obtain ⟨LB, hLB⟩ : ∃ LB, l.map leafB = LB := ⟨_, rfl⟩
  have hLBl : LB.length = l.length := by rw [← hLB]; simp
  have hLBi : ∀ (i : Nat) x, l[i]? = some x → LB[i]? = some (leafB x) := fun i x h => by rw [← hLB, List.getElem?_map, h]; rfl
  rw [hLB]
  obtain ⟨j0, p0, q0, hN, hlog0, hp0, hq0⟩ := New_eq σ
  simp only [logP] at hN
  refine EV_postE rfl Tryz.func8 rfl (by simp [Tryz.ntmps8]) (by kernel_rfl) (by kernel_rfl) ?_
  simp (maxSteps := 4000000) [List.getElem?_cons_zero, List.getElem?_cons_succ, hN]
  refine Post_loop (I := fun x : MadeSt => ⟨[(0, .sl .sh (hs l)), (4, logP x.p), (5, .sl (.ex 35 1) (hs (LB.take x.i))), (6, .int .i64 x.i)], [], x.s⟩) (Pr := MadeOk σ LB) (μ := fun x => l.length - x.i) (a := ⟨0, σ ++ j0, p0, q0⟩) (by simp [hs, logP])
    ⟨Nat.zero_le _, by simpa [rowsB] using hlog0, fun b hb => by rw [List.getElem?_append_left hb], by simp, hp0, hq0⟩ ?_
  rintro ⟨i, s, p, q⟩ ⟨hi, hlog, hpre, hlen, hp, hq⟩
  simp only at hi hlog hpre hlen hp hq ⊢
  have hhl : (hs l).length = l.length := by simp [hs]
  by_cases hc : i < l.length
  · obtain ⟨x, hxi⟩ : ∃ x, l[i]? = some x := ⟨_, List.getElem?_eq_getElem hc⟩
    have hxl := hx x (List.mem_of_getElem? hxi)
    have hxs : (hs l)[i]? = some (.sl .sh (x.map .u8)) := by simp [hs, hxi]
    obtain ⟨b, j0', hL, hb, hbs⟩ := Lent_eq x (by omega) s
    have hblt : b < (s ++ j0').length := (List.getElem?_eq_some_iff.1 hb).1
    have hup := rowsB_up LB i (by omega)
    have hup1 := rowsB_up LB (i + 1) (by omega)
    have hlen32 : ∀ y ∈ LB, y.length ≤ 2 ^ 20 := fun y hy => by
      rw [← hLB] at hy
      obtain ⟨z, _, rfl⟩ := List.mem_map.1 hy
      rw [leafB_len]; omega
    have hok : RowsOk (rowsB (LB.take i)) := by rw [hup]; exact up_ok _ _ (by omega) (leafF_len _ hlen32)
    have hr0 : (rowsB (LB.take i))[0]? = some (rowT nodeB (leafF LB) 0 i) := by rw [hup, upT_get]; simp
    obtain ⟨r1, hA, s', q', rfl, hlog', hfr, hlen', hq'⟩ := Append_core (s ++ j0') p q b x.length (rowsB (LB.take i)) _ (leafB x) hlog.app hr0 (by rw [rowT_len]; omega) hok (by rw [leafB_len]; omega) (LeafM_eq b x x.length rfl (by omega) (s ++ j0') hb)
    rw [rowT_len] at hA
    have hrow : pushB nodeB [] (rowsB (LB.take i)) (leafB x) = rowsB (LB.take (i + 1)) := by
      rw [List.take_add_one, hLBi i x hxi]
      simp [rowsB]
    rw [hrow] at hlog'
    have hpb : b ≠ p := by have := hlog.plt; omega
    have hqb : b ≠ q := by have := hlog.qlt; omega
    have hb' : s'[b]? = some ((x ++ [201]).map .u8) := by rw [hfr b hblt hpb hqb]; exact hb
    have hK := Kept_eq b x x.length rfl (by omega) s' hb'
    have hrL := rLeaf_eq .sh x (by omega)
    have hNum := Num_eq 0
    have hbq' : b ≠ q' := by omega
    have w1 : IntKind.i64.wrap ((i : Int) + 1) = (i : Int) + 1 := wrap64 (by omega)
    simp only [logP] at hA
    obtain ⟨A, hAe⟩ : ∃ A, LB.take i = A := ⟨_, rfl⟩
    rw [hAe]
    simp (maxSteps := 4000000) [List.getElem?_cons_zero, List.getElem?_cons_succ, -getElem?_pos, -regionA_true, hc, hhl, hxs, logP, log_ne, hL, hA, hK, hNum]
    obtain ⟨n, hn⟩ : ∃ n, x.length = n := ⟨_, rfl⟩
    have hnb : n ≤ 2 ^ 28 := by omega
    obtain ⟨C, hC⟩ : ∃ C, (x ++ [201]).map AV.u8 = C := ⟨_, rfl⟩
    rw [hC] at hb'
    have hCl : C.length = n + 1 := by rw [← hC, ← hn]; simp
    have hbl : b < s'.length := (List.getElem?_eq_some_iff.1 hb').1
    have hself : s'.set b C = s' := by
      apply List.ext_getElem?
      intro i
      rw [List.getElem?_set]
      by_cases e : b = i
      · subst e; rw [if_pos rfl, if_pos hbl, hb']
      · rw [if_neg e]
    refine Post_loop (I := fun y : Nat × List AV => ⟨[(0, .sl .sh (hs l)), (4, .gp p 0 (some (80, 1))), (5, .sl (.ex 35 1) (hs A)), (6, .int .i64 i), (7, .ms 5 1 b 0 n), (10, .int .i64 y.1)], [], s'.set b y.2⟩)
      (Pr := fun y => y.1 ≤ n ∧ y.2.length = n + 1) (μ := fun y => n - y.1) (a := (0, C)) (by simp [hself, hn]) ⟨Nat.zero_le _, hCl⟩ ?_
    rintro ⟨j, X⟩ ⟨hj, hX⟩
    simp only at hj hX ⊢
    have hgb : (s'.set b X)[b]? = some X := by rw [List.getElem?_set, if_pos rfl, if_pos hbl]
    by_cases hjn : j < n
    · have w2 : IntKind.i64.wrap ((j : Int) + 1) = ((j + 1 : Nat) : Int) := by rw [wrap64 (by omega)]; omega
      have hjX : j + 1 ≤ X.length := by omega
      simp (maxSteps := 4000000) [List.getElem?_cons_zero, List.getElem?_cons_succ, -getElem?_pos, hjn, hgb, hjX, w2]
      exact ⟨j + 1, _, ⟨by omega, by simp; omega⟩, by omega, by simp, rfl⟩
    · have hlogX : LogAt (s'.set b X) p q' (rowsB (LB.take (i + 1))) := hlog'.keep (by rw [List.getElem?_set, if_neg hpb]) (by rw [List.getElem?_set, if_neg hbq'])
      have hnA : A.length + 1 ≤ most := by rw [← hAe]; unfold most; simp; omega
      have hA1 : LB.take (i + 1) = A ++ [leafB x] := by rw [List.take_add_one, hLBi i x hxi, hAe]; rfl
      obtain ⟨Y, hY⟩ : ∃ Y, leafB x = Y := ⟨_, rfl⟩
      rw [hY] at hrL
      simp (maxSteps := 4000000) [List.getElem?_cons_zero, List.getElem?_cons_succ, -getElem?_pos, hjn, hc, hhl, hxs, hrL, w1, need_of hnA]
      repeat (rw [need_of]; rotate_left; (· (try unfold most); omega); simp (maxSteps := 4000000) [List.getElem?_cons_zero, List.getElem?_cons_succ, -getElem?_pos, hjn, hc, hhl, hxs, hrL, w1, need_of hnA])
      have hsj : s.length ≤ (s ++ j0').length := by simp
      refine ⟨⟨i + 1, s'.set b X, p, q'⟩, ⟨by show i + 1 ≤ LB.length; omega, hlogX, fun c hc => ?_, by simp; omega, hp, by show σ.length ≤ q'; omega⟩, by show l.length - (i + 1) < l.length - i; omega, ⟨rfl, ?_, by simp⟩, rfl⟩
      · rw [List.getElem?_set, if_neg (by omega), hfr c (by omega) (by omega) (by omega), List.getElem?_append_left (by omega), hpre c hc]
      · rw [← List.map_take, hA1, ← hY]; simp [hs]
  · have hi' : LB.take i = LB := List.take_of_length_le (by omega)
    rw [hi'] at hlog ⊢
    simp (maxSteps := 4000000) [List.getElem?_cons_zero, List.getElem?_cons_succ, hc, hhl, logP, log_ne, Tryz.results8]
    exact ⟨_, _, ⟨rfl, rfl⟩, _, _, ⟨rfl, rfl⟩, q, hlog, hpre, hlen, hp, hq⟩
end Go.Proofs.Tryz.Ai
end
section
/- What a log tells: its hashes. -/
namespace Go.Proofs.Tryz.Ai
open Go Go.AI Go.Proofs
set_option maxHeartbeats 1000000
set_option linter.unusedVariables false

/-- the hash at a place -/
def lookR (rows : List (List (List UInt8))) (v k : Int) : Option (List UInt8) := if 0 ≤ v ∧ 0 ≤ k then rows[v.toNat]?.bind fun r => r[k.toNat]? else none
def lookA : Option (List UInt8) → AV
  | some h => .tup [.sl .sh (h.map .u8), .int .i64 0]
  | none => .tup [.sl .sh [], .int .i64 6]
theorem Hash_eq (s : List (List AV)) (p q : Nat) (rows : List (List (List UInt8))) (h : LogAt s p q rows) (hok : RowsOk rows) (v k : Int) : ev 11 [logP p, .int .i64 v, .int .i64 k] s = some (lookA (lookR rows v k), s) := by
  have e1 := h.log
  have e2 := h.row
  simp only [logP]
  refine EV_post rfl Tryz.func11 rfl (by simp [Tryz.ntmps11]) (by kernel_rfl) (by kernel_rfl) ?_
  by_cases hv : v < 0
  · have hl : lookR rows v k = none := by unfold lookR; rw [if_neg (by omega)]
    simp (maxSteps := 4000000) [List.getElem?_cons_zero, List.getElem?_cons_succ, hv, hl, lookA, Tryz.results11]
  · obtain ⟨a, rfl⟩ := Int.eq_ofNat_of_zero_le (show 0 ≤ v by omega)
    by_cases ha : a < rows.length
    · obtain ⟨r, hr⟩ : ∃ r, rows[a]? = some r := ⟨_, List.getElem?_eq_getElem ha⟩
      have e3 : (rows.map rowA)[a]? = some (.sl (rowO r) (hs r)) := by rw [List.getElem?_map, hr]; rfl
      have hal : ¬ rows.length ≤ a := by omega
      by_cases hk : k < 0
      · have hl : lookR rows a k = none := by unfold lookR; rw [if_neg (by omega)]
        simp (maxSteps := 4000000) [List.getElem?_cons_zero, List.getElem?_cons_succ, -getElem?_pos, e1, hal, hk, hl, lookA, Tryz.results11]
      · obtain ⟨b, rfl⟩ := Int.eq_ofNat_of_zero_le (show 0 ≤ k by omega)
        have hC : (rows.map rowA).length = rows.length := by simp
        have hXl : (hs r).length = r.length := by simp [hs]
        by_cases hb : b < r.length
        · obtain ⟨x, hx⟩ : ∃ x, r[b]? = some x := ⟨_, List.getElem?_eq_getElem hb⟩
          have hl : lookR rows a b = some x := by unfold lookR; rw [if_pos (by omega)]; simp [hr, hx]
          have hxl := (hok.2 r (List.mem_of_getElem? hr)).2 x (List.mem_of_getElem? hx)
          have hf := tfresh_eq .sh x (by omega)
          have e4 : (hs r)[b]? = some (.sl .sh (x.map .u8)) := by simp [hs, hx]
          have hbl : ¬ r.length ≤ b := by omega
          generalize rows.map rowA = C at *
          generalize hs r = X at *
          simp (maxSteps := 4000000) [List.getElem?_cons_zero, List.getElem?_cons_succ, -getElem?_pos, e1, e2, e3, e4, ha, hb, hal, hbl, hXl, hl, hf, lookA, Tryz.results11]
        · have hl : lookR rows a b = none := by unfold lookR; rw [if_pos (by omega)]; simp [hr]; omega
          have hbl : r.length ≤ b := by omega
          generalize rows.map rowA = C at *
          generalize hs r = X at *
          simp (maxSteps := 4000000) [List.getElem?_cons_zero, List.getElem?_cons_succ, -getElem?_pos, e1, e2, e3, ha, hal, hbl, hXl, hl, lookA, Tryz.results11]
    · have hal : rows.length ≤ a := by omega
      have hl : lookR rows a k = none := by unfold lookR; split; simp [List.getElem?_eq_none hal]; rfl
      simp (maxSteps := 4000000) [List.getElem?_cons_zero, List.getElem?_cons_succ, -getElem?_pos, e1, ha, hal, hl, lookA, Tryz.results11]
end Go.Proofs.Tryz.Ai
end
section
/- A log of leaves. -/
namespace Go.Proofs.Tryz.Ai
open Go Go.AI Go.Proofs
set_option maxHeartbeats 1000000
set_option linter.unusedVariables false

theorem lookR_up (L : Nat → List UInt8) (N : Nat) (v k : Int) : lookR (upT nodeB L 0 N) v k = if 0 ≤ v ∧ 0 ≤ k ∧ (k.toNat + 1) * 2 ^ v.toNat ≤ N then some (wholeT nodeB L v.toNat k.toNat) else none := by
  unfold lookR
  by_cases hvk : 0 ≤ v ∧ 0 ≤ k
  · rw [if_pos hvk, upT_get]
    have hp : 0 < 2 ^ v.toNat := Nat.two_pow_pos _
    by_cases hk : (k.toNat + 1) * 2 ^ v.toNat ≤ N
    · have hlt := (div_le_of hp).1 hk
      rw [if_pos (.inr (by omega)), if_pos ⟨hvk.1, hvk.2, hk⟩]
      simp only [Option.bind_some, Nat.zero_add]
      exact rowT_get hlt
    · have hge : N / 2 ^ v.toNat ≤ k.toNat := by
        rcases Nat.lt_or_ge k.toNat (N / 2 ^ v.toNat) with q | q
        · exact absurd ((div_le_of hp).2 q) hk
        · exact q
      rw [if_neg (c := 0 ≤ v ∧ 0 ≤ k ∧ _) (fun h => hk h.2.2)]
      split
      · simp only [Option.bind_some]
        rw [List.getElem?_eq_none]
        rw [rowT_len]; exact hge
      · rfl
  · rw [if_neg hvk, if_neg (fun h => hvk ⟨h.1, h.2.1⟩)]
/-- a log of such leaves -/
structure LogOf (s : List (List AV)) (p q : Nat) (LB : List (List UInt8)) : Prop where
  at' : LogAt s p q (rowsB LB)
  len : LB.length ≤ 1048576
  small : ∀ x ∈ LB, x.length = 32
theorem LogOf.up {s : List (List AV)} {p q : Nat} {LB : List (List UInt8)} (h : LogOf s p q LB) : rowsB LB = upT nodeB (leafF LB) 0 LB.length := by
  have := rowsB_up LB LB.length (Nat.le_refl _)
  rwa [List.take_length] at this
theorem LogOf.leaf {s : List (List AV)} {p q : Nat} {LB : List (List UInt8)} (h : LogOf s p q LB) (i : Nat) : (leafF LB i).length ≤ 2 ^ 20 := leafF_len LB (fun x hx => by rw [h.small x hx]; omega) i
theorem LogOf.ok {s : List (List AV)} {p q : Nat} {LB : List (List UInt8)} (h : LogOf s p q LB) : RowsOk (rowsB LB) := by
  rw [h.up]; exact up_ok _ _ (by have := h.len; omega) h.leaf
theorem LogOf.row0 {s : List (List AV)} {p q : Nat} {LB : List (List UInt8)} (h : LogOf s p q LB) : (rowsB LB)[0]? = some (rowT nodeB (leafF LB) 0 LB.length) := by
  rw [h.up, upT_get]; simp
theorem LogOf.app {s : List (List AV)} {p q : Nat} {LB : List (List UInt8)} (h : LogOf s p q LB) (j : List (List AV)) : LogOf (s ++ j) p q LB := ⟨h.at'.app, h.len, h.small⟩
theorem LogOf.keep {s s' : List (List AV)} {p q : Nat} {LB : List (List UInt8)} (h : LogOf s p q LB) (hp : s'[p]? = s[p]?) (hq : s'[q]? = s[q]?) : LogOf s' p q LB := ⟨h.at'.keep hp hq, h.len, h.small⟩
theorem LogOf.size {s : List (List AV)} {p q : Nat} {LB : List (List UInt8)} (h : LogOf s p q LB) : ev 48 [logP p] s = some (.int .i64 LB.length, s) := by
  have := Size_eq s p q _ _ h.at' h.row0
  rwa [rowT_len] at this
/-- a hash that a log has -/
def lhashQ (LB : List (List UInt8)) (v k : Int) : Option (List UInt8) := if 0 ≤ v ∧ 0 ≤ k ∧ (k.toNat + 1) * 2 ^ v.toNat ≤ LB.length then some (wholeT nodeB (leafF LB) v.toNat k.toNat) else none
theorem LogOf.hash {s : List (List AV)} {p q : Nat} {LB : List (List UInt8)} (h : LogOf s p q LB) (v k : Int) : ev 11 [logP p, .int .i64 v, .int .i64 k] s = some (lookA (lhashQ LB v k), s) := by
  have := Hash_eq s p q _ h.at' h.ok v k
  rwa [h.up, lookR_up] at this
theorem made_of (l : List (List UInt8)) (hl : l.length ≤ 1000) (hx : ∀ x ∈ l, x.length ≤ 2 ^ 28) (σ : List (List AV)) :
    ∃ s p q, ev 8 [.sl .sh (hs l)] σ = some (.tup [logP p, .sl .sh (hs (l.map leafB))], s) ∧ LogOf s p q (l.map leafB) ∧ (∀ b, b < σ.length → s[b]? = σ[b]?) ∧ σ.length ≤ s.length ∧ σ.length ≤ p ∧ σ.length ≤ q := by
  obtain ⟨r, h1, s, p, q, rfl, h2, h3, h4, h5, h6⟩ := made_eq l hl hx σ
  exact ⟨s, p, q, h1, ⟨h2, by simp; omega, fun x hx => by obtain ⟨y, _, rfl⟩ := List.mem_map.1 hx; exact leafB_len y⟩, h3, h4, h5, h6⟩
theorem log_eql (p : Nat) (sh : Option (TypeId × Nat)) : bin Tryz.prog .eql true 25 (.gp p 0 sh) .nilp = some (.bool false) := by
  have h : Tryz.prog.underlying 25 = some (.pointer (Tryz.prog.pointee 25)) := by kernel_rfl
  simp only [bin, isNilP, bnd_some]
  rw [need_of h]
end Go.Proofs.Tryz.Ai
end
section
/- The document's powers, for places of stored hashes. -/
namespace Go.Proofs.Tryz.Ai
open Go Go.AI Go.Proofs
set_option maxHeartbeats 1000000
set_option linter.unusedVariables false

theorem Power_eq (n : Nat) (h : n ≤ 40) (σ) : ev 61 [.int .i64 n] σ = some (.int .i64 ((2 ^ n : Nat) : Int), σ) := by
  refine EV_post rfl Tryz.func61 rfl (by simp [Tryz.ntmps61]) (by kernel_rfl) (by kernel_rfl) ?_
  simp (maxSteps := 4000000) [List.getElem?_cons_zero, List.getElem?_cons_succ, ]
  refine Post_loop (I := fun x : Nat × Nat => ⟨[(0, .int .i64 n), (3, .int .i64 x.2), (4, .int .i64 x.1)], [], σ⟩) (Pr := fun x => x.1 ≤ n ∧ x.2 = 2 ^ x.1) (μ := fun x => n - x.1) (a := (0, 1)) (by simp) (by simp) ?_
  rintro ⟨i, p⟩ ⟨hi, hp⟩
  simp only at hi hp ⊢
  by_cases hc : i < n
  · have h1 : p ≤ 2 ^ 40 := by rw [hp]; exact Nat.pow_le_pow_right (by omega) (by omega)
    have w1 : IntKind.i64.wrap (2 * (p : Int)) = ((2 * p : Nat) : Int) := by rw [wrap64 (by omega)]; omega
    have w2 : IntKind.i64.wrap ((i : Int) + 1) = (i : Int) + 1 := wrap64 (by omega)
    obtain ⟨q, hq⟩ : ∃ q, 2 * p = q := ⟨_, rfl⟩
    rw [hq] at w1
    simp (maxSteps := 4000000) [List.getElem?_cons_zero, List.getElem?_cons_succ, hc, w1, w2]
    exact ⟨i + 1, q, ⟨by omega, by rw [Nat.pow_succ, ← hp]; omega⟩, by omega, rfl, by simp⟩
  · have : i = n := by omega
    subst this
    have hp2 : (2 : Int) ^ i = (p : Int) := by rw [hp]; simp
    simp (maxSteps := 4000000) [List.getElem?_cons_zero, List.getElem?_cons_succ, hc, hp2, Tryz.results61]
theorem There_eq (m : Nat) (hm : m ≤ 1048576) (level k : Int) (σ) : ev 60 [.int .i64 level, .int .i64 k, .int .i64 m] σ = some (.bool (inP m level k), σ) := by
  have hno : ¬ (0 ≤ level ∧ level ≤ 20 ∧ 0 ≤ k ∧ k ≤ 1048576) → inP m level k = false := by
    intro h
    cases hc : inP m level k with
    | false => rfl
    | true =>
      obtain ⟨l, i, rfl, rfl, h1, h2⟩ := inP_nat (Int.natCast_nonneg m) hc
      have : i + 1 ≤ (i + 1) * 2 ^ l := Nat.le_mul_of_pos_right _ (Nat.two_pow_pos _)
      simp at h2
      omega
  refine EV_post rfl Tryz.func60 rfl (by simp [Tryz.ntmps60]) (by kernel_rfl) (by kernel_rfl) ?_
  by_cases h1 : 0 ≤ level
  · by_cases h2 : level ≤ 20
    · by_cases h3 : 0 ≤ k
      · by_cases h4 : k ≤ 1048576
        · obtain ⟨l, rfl⟩ := Int.eq_ofNat_of_zero_le h1
          obtain ⟨i, rfl⟩ := Int.eq_ofNat_of_zero_le h3
          have hP := Power_eq l (by omega)
          have h5 : 2 ^ l ≤ 2 ^ 20 := Nat.pow_le_pow_right (by omega) (by omega)
          have hpm : (i + 1) * 2 ^ l ≤ 1048577 * 2 ^ 20 := Nat.mul_le_mul (by omega) h5
          have hb : inP m l i = decide ((i + 1) * 2 ^ l ≤ m) := by
            cases hc : inP m l i with
            | true =>
              obtain ⟨l', i', e1, e2, _, h2'⟩ := inP_nat (Int.natCast_nonneg m) hc
              have : l' = l := by omega
              subst this
              have : i' = i := by omega
              subst this
              simp only [Int.toNat_natCast] at h2'
              exact (decide_eq_true h2').symm
            | false =>
              symm
              rw [decide_eq_false_iff_not]
              intro h
              have := inP_of (m := m) (l := l) (i := i) (by omega) h
              rw [this] at hc; cases hc
          obtain ⟨P, hPd⟩ : ∃ P, 2 ^ l = P := ⟨_, rfl⟩
          rw [hPd] at hP hpm hb
          obtain ⟨Q, hQ⟩ : ∃ Q, (i + 1) * P = Q := ⟨_, rfl⟩
          have w1 : IntKind.i64.wrap ((i : Int) + 1) = (i : Int) + 1 := wrap64 (by omega)
          have w2 : IntKind.i64.wrap (((i : Int) + 1) * P) = (Q : Int) := by
            rw [show ((i : Int) + 1) * P = (((i + 1) * P : Nat) : Int) by simp, hQ]; exact wrap64 (by omega)
          rw [hQ] at hb
          by_cases h6 : Q ≤ m
          · have h7 : decide (Q ≤ m) = true := decide_eq_true h6
            simp (maxSteps := 4000000) [List.getElem?_cons_zero, List.getElem?_cons_succ, h1, h2, h4, hP, w1, w2, hb, h6, Tryz.results60]
          · have h7 : decide (Q ≤ m) = false := decide_eq_false h6
            simp (maxSteps := 4000000) [List.getElem?_cons_zero, List.getElem?_cons_succ, h1, h2, h4, hP, w1, w2, hb, h6, Tryz.results60]
        · have := hno (by omega)
          simp (maxSteps := 4000000) [List.getElem?_cons_zero, List.getElem?_cons_succ, h1, h2, h3, h4, this, Tryz.results60]
      · have := hno (by omega)
        simp (maxSteps := 4000000) [List.getElem?_cons_zero, List.getElem?_cons_succ, h1, h2, h3, this, Tryz.results60]
    · have := hno (by omega)
      simp (maxSteps := 4000000) [List.getElem?_cons_zero, List.getElem?_cons_succ, h1, h2, this, Tryz.results60]
  · have := hno (by omega)
    simp (maxSteps := 4000000) [List.getElem?_cons_zero, List.getElem?_cons_succ, h1, this, Tryz.results60]
end Go.Proofs.Tryz.Ai
end
section
/- Tiles: their numbers. -/
namespace Go.Proofs.Tryz.Ai
open Go Go.AI Go.Proofs
set_option maxHeartbeats 6000000
set_option maxRecDepth 2000
set_option linter.unusedVariables false

def tileA (H L N W : Int) : AV := .agg [.int .i64 H, .int .i64 L, .int .i64 N, .int .i64 W]
/-- may a tile's numbers be? -/
def fitsP (H L N W : Int) : Prop := 1 ≤ H ∧ H ≤ 8 ∧ 0 ≤ L ∧ 0 ≤ N ∧ 1 ≤ W ∧ W ≤ ((2 ^ H.toNat : Nat) : Int)
instance (H L N W : Int) : Decidable (fitsP H L N W) := by unfold fitsP; infer_instance
theorem pow8 {h : Nat} (hh : h ≤ 8) : 2 ^ h ≤ 256 := by
  have : 2 ^ h ≤ 2 ^ 8 := Nat.pow_le_pow_right (by omega) hh
  omega
theorem shl_one (h : Nat) (hh : h ≤ 8) : IntKind.i64.wrap (1 * 2 ^ min h 64) = ((2 ^ h : Nat) : Int) := by
  have := pow8 hh
  have e : min h 64 = h := by omega
  rw [e, Int.one_mul, show (2 : Int) ^ h = ((2 ^ h : Nat) : Int) by simp]
  obtain ⟨P, hP⟩ : ∃ P, 2 ^ h = P := ⟨_, rfl⟩
  rw [hP] at this ⊢
  exact wrap64 (by omega)
theorem fits_eq (H L N W : Int) (σ) : ev 49 [tileA H L N W] σ = some (.bool (decide (fitsP H L N W)), σ) := by
  simp only [tileA]
  refine EV_post rfl Tryz.func49 rfl (by simp [Tryz.ntmps49]) (by kernel_rfl) (by kernel_rfl) ?_
  refine Post_seq (Post_reg (st1 := ⟨[(0, .agg [.int .i64 H, .int .i64 L, .int .i64 N, .int .i64 W]), (1, .lp 1 0), (2, .bool false)], [(1, [.int .i64 H, .int .i64 L, .int .i64 N, .int .i64 W])], σ⟩) (by kernel_rfl) ?_)
  refine Post_seq (Post_draw [] ⟨[(0, .agg [.int .i64 H, .int .i64 L, .int .i64 N, .int .i64 W]), (1, .lp 1 0), (2, .bool false)], [(1, [.int .i64 H, .int .i64 L, .int .i64 N, .int .i64 W])], σ⟩ ⟨[(0, .agg [.int .i64 H, .int .i64 L, .int .i64 N, .int .i64 W]), (1, .lp 1 0), (2, .bool (decide (fitsP H L N W)))], [(1, [.int .i64 H, .int .i64 L, .int .i64 N, .int .i64 W])], σ⟩ rfl (by kernel_rfl) ?_ (by simp [Tryz.results49]))
  by_cases h1 : 1 ≤ H
  · by_cases h2 : H ≤ 8
    · by_cases h3 : 0 ≤ L
      · by_cases h4 : 0 ≤ N
        · by_cases h5 : 1 ≤ W
          · obtain ⟨h, rfl⟩ := Int.eq_ofNat_of_zero_le (show 0 ≤ H by omega)
            have hs := shl_one h (by omega)
            have hb : IntKind.i64.bits = 64 := rfl
            have hn : ¬ (h : Int) < 0 := by omega
            have hf : fitsP h L N W ↔ W ≤ ((2 ^ h : Nat) : Int) := by unfold fitsP; simp only [Int.toNat_natCast]; omega
            have hm : min h 64 = h := by omega
            rw [hm, Int.one_mul] at hs
            generalize ((2 ^ h : Nat) : Int) = P at *
            by_cases h6 : W ≤ P
            · have hd : decide (fitsP h L N W) = true := decide_eq_true (hf.2 h6)
              simp (maxSteps := 4000000) [List.getElem?_cons_zero, List.getElem?_cons_succ, h1, h2, h3, h4, h5, hn, hb, hm, hs, h6, hd]
            · have hd : decide (fitsP h L N W) = false := decide_eq_false (fun h => h6 (hf.1 h))
              simp (maxSteps := 4000000) [List.getElem?_cons_zero, List.getElem?_cons_succ, h1, h2, h3, h4, h5, hn, hb, hm, hs, h6, hd]
          · have hd : decide (fitsP H L N W) = false := decide_eq_false (fun h => h5 h.2.2.2.2.1)
            simp (maxSteps := 4000000) [List.getElem?_cons_zero, List.getElem?_cons_succ, h1, h2, h3, h4, h5, hd]
        · have hd : decide (fitsP H L N W) = false := decide_eq_false (fun h => h4 h.2.2.2.1)
          simp (maxSteps := 4000000) [List.getElem?_cons_zero, List.getElem?_cons_succ, h1, h2, h3, h4, hd]
      · have hd : decide (fitsP H L N W) = false := decide_eq_false (fun h => h3 h.2.2.1)
        simp (maxSteps := 4000000) [List.getElem?_cons_zero, List.getElem?_cons_succ, h1, h2, h3, hd]
    · have hd : decide (fitsP H L N W) = false := decide_eq_false (fun h => h2 h.2.1)
      simp (maxSteps := 4000000) [List.getElem?_cons_zero, List.getElem?_cons_succ, h1, h2, hd]
  · have hd : decide (fitsP H L N W) = false := decide_eq_false (fun h => h1 h.1)
    simp (maxSteps := 4000000) [List.getElem?_cons_zero, List.getElem?_cons_succ, h1, hd]
/-- is a tile within some records? -/
def tileP (n : Nat) (H L N W : Int) : Prop := fitsP H L N W ∧ H * L ≤ 20 ∧ N ≤ 1048576 ∧ (N.toNat * 2 ^ H.toNat + W.toNat) * 2 ^ (H * L).toNat ≤ n
instance (n : Nat) (H L N W : Int) : Decidable (tileP n H L N W) := by unfold tileP; infer_instance
theorem in_eq (n : Nat) (hn : n ≤ 1048576) (H L N W : Int) (σ) : ev 47 [tileA H L N W, .int .i64 n] σ = some (.bool (decide (tileP n H L N W)), σ) := by
  have hF := fits_eq H L N W
  simp only [tileA] at hF ⊢
  refine EV_post rfl Tryz.func47 rfl (by simp [Tryz.ntmps47]) (by kernel_rfl) (by kernel_rfl) ?_
  refine Post_seq (Post_reg (st1 := ⟨[(0, .agg [.int .i64 H, .int .i64 L, .int .i64 N, .int .i64 W]), (1, .int .i64 n), (2, .lp 2 0), (4, .bool false)], [(2, [.int .i64 H, .int .i64 L, .int .i64 N, .int .i64 W])], σ⟩) (by kernel_rfl) ?_)
  refine Post_seq (Post_draw [] ⟨[(0, .agg [.int .i64 H, .int .i64 L, .int .i64 N, .int .i64 W]), (1, .int .i64 n), (2, .lp 2 0), (4, .bool false)], [(2, [.int .i64 H, .int .i64 L, .int .i64 N, .int .i64 W])], σ⟩ ⟨[(0, .agg [.int .i64 H, .int .i64 L, .int .i64 N, .int .i64 W]), (1, .int .i64 n), (2, .lp 2 0), (4, .bool (decide (tileP n H L N W)))], [(2, [.int .i64 H, .int .i64 L, .int .i64 N, .int .i64 W])], σ⟩ rfl (by kernel_rfl) ?_ (by simp [Tryz.results47]))
  by_cases hf : fitsP H L N W
  · rw [decide_eq_true hf] at hF
    obtain ⟨f1, f2, f3, f4, f5, f6⟩ := hf
    obtain ⟨h, rfl⟩ := Int.eq_ofNat_of_zero_le (show 0 ≤ H by omega)
    obtain ⟨l, rfl⟩ := Int.eq_ofNat_of_zero_le (show 0 ≤ L by omega)
    obtain ⟨k, rfl⟩ := Int.eq_ofNat_of_zero_le (show 0 ≤ N by omega)
    obtain ⟨w, rfl⟩ := Int.eq_ofNat_of_zero_le (show 0 ≤ W by omega)
    have hh0 : ¬ h = 0 := by omega
    have hd1 : (20 : Int).tdiv h = ((20 / h : Nat) : Int) := by rw [Int.tdiv_eq_ediv_of_nonneg (by omega)]; simp
    have hw20 : IntKind.i64.wrap ((20 / h : Nat) : Int) = ((20 / h : Nat) : Int) := by have := Nat.div_le_self 20 h; generalize 20 / h = D at *; exact wrap64 (by omega)
    have hq : l ≤ 20 / h ↔ h * l ≤ 20 := by rw [Nat.le_div_iff_mul_le (by omega), Nat.mul_comm]
    simp only [Int.toNat_natCast] at f6
    have hp := pow8 (h := h) (by omega)
    have hT : tileP n h l k w ↔ l ≤ 20 / h ∧ k ≤ 1048576 ∧ (k * 2 ^ h + w) * 2 ^ (h * l) ≤ n := by
      rw [hq]
      unfold tileP fitsP
      simp only [Int.toNat_natCast, show ((h : Int) * (l : Int)).toNat = h * l by rw [← Int.natCast_mul]; rfl]
      have : ((h : Int) * l ≤ 20) ↔ h * l ≤ 20 := by rw [← Int.natCast_mul]; omega
      rw [this]
      constructor
      · rintro ⟨_, a, b, c⟩; exact ⟨a, by omega, c⟩
      · rintro ⟨a, b, c⟩; exact ⟨⟨f1, f2, f3, f4, f5, f6⟩, a, by omega, c⟩
    by_cases c1 : l ≤ 20 / h
    · by_cases c2 : k ≤ 1048576
      · have hl20 := hq.1 c1
        have hll : l ≤ 20 := by
          have : l ≤ h * l := Nat.le_mul_of_pos_left _ (by omega)
          omega
        have w1 : IntKind.i64.wrap ((h : Int) * l) = ((h * l : Nat) : Int) := by rw [← Int.natCast_mul]; exact wrap64 (by omega)
        have hkp : k * 2 ^ h ≤ 1048576 * 256 := Nat.mul_le_mul c2 hp
        have hm : min h 64 = h := by omega
        have w2 : IntKind.i64.wrap ((k : Int) * 2 ^ h) = ((k * 2 ^ h : Nat) : Int) := by
          rw [show (k : Int) * 2 ^ h = ((k * 2 ^ h : Nat) : Int) by simp]
          generalize k * 2 ^ h = X at *
          exact wrap64 (by omega)
        have w3 : IntKind.i64.wrap (((k * 2 ^ h : Nat) : Int) + w) = ((k * 2 ^ h + w : Nat) : Int) := by
          have : (w : Int) ≤ 256 := by
            have := f6
            generalize 2 ^ h = P at *
            omega
          clear f6 w2
          generalize k * 2 ^ h = X at *
          rw [wrap64 (by omega)]; omega
        have w4 : IntKind.i64.wrap (((k * 2 ^ h + w : Nat) : Int) - 1) = ((k * 2 ^ h + w - 1 : Nat) : Int) := by
          have : (w : Int) ≤ 256 := by
            have := f6
            generalize 2 ^ h = P at *
            omega
          clear f6 w2 w3
          generalize k * 2 ^ h = X at *
          rw [wrap64 (by omega)]; omega
        have hW := within_eq n ((h * l : Nat) : Int) ((k * 2 ^ h + w - 1 : Nat) : Int) (by omega)
        have hin : (0 ≤ ((h * l : Nat) : Int) ∧ ((h * l : Nat) : Int) ≤ 20 ∧ 0 ≤ ((k * 2 ^ h + w - 1 : Nat) : Int) ∧ ((k * 2 ^ h + w - 1 : Nat) : Int) < (n : Int).fdiv (2 ^ ((h * l : Nat) : Int).toNat)) ↔ (k * 2 ^ h + w) * 2 ^ (h * l) ≤ n := by
          rw [Int.toNat_natCast, fdiv_pow]
          have hpos : 0 < 2 ^ (h * l) := Nat.two_pow_pos _
          have := Nat.le_div_iff_mul_le (x := k * 2 ^ h + w) (y := n) hpos
          clear w2 w3 w4 f6 hkp hT hW
          generalize (k * 2 ^ h + w) * 2 ^ (h * l) = Q at *
          generalize n / 2 ^ (h * l) = D at *
          generalize k * 2 ^ h = X at *
          omega
        have hdec : decide (0 ≤ ((h * l : Nat) : Int) ∧ ((h * l : Nat) : Int) ≤ 20 ∧ 0 ≤ ((k * 2 ^ h + w - 1 : Nat) : Int) ∧ ((k * 2 ^ h + w - 1 : Nat) : Int) < (n : Int).fdiv (2 ^ ((h * l : Nat) : Int).toNat)) = decide (tileP n h l k w) := by
          rw [decide_eq_decide, hin, hT]
          exact ⟨fun x => ⟨c1, c2, x⟩, fun x => x.2.2⟩
        rw [hdec] at hW
        generalize k * 2 ^ h + w - 1 = Z at *
        generalize hZ : k * 2 ^ h + w = Y at *
        generalize k * 2 ^ h = X at *
        generalize h * l = G at *
        generalize 20 / h = D at *
        generalize decide (tileP n h l k w) = B at *
        have hneg : ¬ (h : Int) < 0 := by omega
        have hb : IntKind.i64.bits = 64 := rfl
        simp (maxSteps := 4000000) [List.getElem?_cons_zero, List.getElem?_cons_succ, hF, hh0, hd1, hw20, c1, c2, w1, hm, hb, w2, w3, w4, hW]
      · have hd : decide (tileP n h l k w) = false := decide_eq_false (fun x => c2 (hT.1 x).2.1)
        generalize 20 / h = D at *
        simp (maxSteps := 4000000) [List.getElem?_cons_zero, List.getElem?_cons_succ, hF, hh0, hd1, hw20, c1, c2, hd]
    · have hd : decide (tileP n h l k w) = false := decide_eq_false (fun x => c1 (hT.1 x).1)
      generalize 20 / h = D at *
      simp (maxSteps := 4000000) [List.getElem?_cons_zero, List.getElem?_cons_succ, hF, hh0, hd1, hw20, c1, hd]
  · rw [decide_eq_false hf] at hF
    have hd : decide (tileP n H L N W) = false := decide_eq_false (fun h => hf h.1)
    simp (maxSteps := 4000000) [List.getElem?_cons_zero, List.getElem?_cons_succ, hF, hd]
end Go.Proofs.Tryz.Ai
end
section
/- Tiles: which one has a hash. -/
namespace Go.Proofs.Tryz.Ai
open Go Go.AI Go.Proofs
set_option maxHeartbeats 6000000
set_option maxRecDepth 2000
set_option linter.unusedVariables false

/-- how wide a tile is -/
def wideN (h n l number : Nat) : Int := if ((n / 2 ^ (h * l) : Nat) : Int) - ((number * 2 ^ h : Nat) : Int) < ((2 ^ h : Nat) : Int) then ((n / 2 ^ (h * l) : Nat) : Int) - ((number * 2 ^ h : Nat) : Int) else ((2 ^ h : Nat) : Int)
theorem wide_eq (h n l number : Nat) (h8 : h ≤ 8) (hl : h * l ≤ 2 ^ 20) (hn : n ≤ 1048576) (hk : number ≤ 2 ^ 24) (σ) :
    ev 45 [.int .i64 h, .int .i64 n, .int .i64 l, .int .i64 number] σ = some (tileA h l number (wideN h n l number), σ) := by
  have hm : min h 64 = h := by omega
  have hs := shl_one h h8
  rw [hm, Int.one_mul] at hs
  have hp := pow8 h8
  have w1 : IntKind.i64.wrap ((h : Int) * l) = ((h * l : Nat) : Int) := by
    rw [← Int.natCast_mul]; generalize h * l = G at *; exact wrap64 (by omega)
  have hf : (n : Int).fdiv (2 ^ min (h * l) 64) = ((n / 2 ^ (h * l) : Nat) : Int) := by
    rw [fdiv_pow]
    by_cases q : h * l ≤ 64
    · rw [show min (h * l) 64 = h * l by omega]
    · rw [show min (h * l) 64 = 64 by omega, Nat.div_eq_of_lt (show n < 2 ^ 64 by omega)]
      rw [Nat.div_eq_of_lt]
      have : 2 ^ 64 ≤ 2 ^ (h * l) := Nat.pow_le_pow_right (by omega) (by omega)
      omega
  have hkp : number * 2 ^ h ≤ 2 ^ 24 * 256 := Nat.mul_le_mul hk hp
  have w2 : IntKind.i64.wrap ((number : Int) * 2 ^ h) = ((number * 2 ^ h : Nat) : Int) := by
    rw [show (number : Int) * 2 ^ h = ((number * 2 ^ h : Nat) : Int) by simp]
    generalize number * 2 ^ h = X at *
    exact wrap64 (by omega)
  have hd : n / 2 ^ (h * l) ≤ n := Nat.div_le_self _ _
  have w3 : IntKind.i64.wrap (((n / 2 ^ (h * l) : Nat) : Int) - ((number * 2 ^ h : Nat) : Int)) = ((n / 2 ^ (h * l) : Nat) : Int) - ((number * 2 ^ h : Nat) : Int) := by
    clear w2 hf hs
    generalize n / 2 ^ (h * l) = D at *
    generalize number * 2 ^ h = X at *
    exact wrap64 (by omega)
  have hb : IntKind.i64.bits = 64 := rfl
  have hn1 : ¬ (h : Int) < 0 := by omega
  have hn2 : ¬ ((h * l : Nat) : Int) < 0 := by generalize h * l = G; omega
  have hW : wideN h n l number = if ((n / 2 ^ (h * l) : Nat) : Int) - ((number * 2 ^ h : Nat) : Int) < ((2 ^ h : Nat) : Int) then ((n / 2 ^ (h * l) : Nat) : Int) - ((number * 2 ^ h : Nat) : Int) else ((2 ^ h : Nat) : Int) := rfl
  simp only [tileA]
  rw [hW]
  clear hW hkp hp
  obtain ⟨D, hD⟩ : ∃ D : Nat, n / 2 ^ (h * l) = D := ⟨_, rfl⟩
  obtain ⟨X, hX⟩ : ∃ X : Nat, number * 2 ^ h = X := ⟨_, rfl⟩
  obtain ⟨P, hP⟩ : ∃ P : Nat, 2 ^ h = P := ⟨_, rfl⟩
  obtain ⟨G, hG⟩ : ∃ G : Nat, h * l = G := ⟨_, rfl⟩
  rw [hD] at hf w3 ⊢
  rw [hX] at w2 w3 ⊢
  rw [hP] at hs ⊢
  rw [hG] at w1 hf hn2
  clear hD hX hP hG hl hd
  have hwn : ∀ z : Int, -9223372036854775808 ≤ z → z ≤ 9223372036854775807 → IntKind.i64.wrap z = z := fun z a b => wrap64 ⟨a, b⟩
  refine EV_post rfl Tryz.func45 rfl (by simp [Tryz.ntmps45]) (by kernel_rfl) (by kernel_rfl) ?_
  refine Post_seq (Post_reg (st1 := ⟨[(0, .int .i64 h), (1, .int .i64 n), (2, .int .i64 l), (3, .int .i64 number), (8, .lp 8 0)], [(8, [.int .i64 0, .int .i64 0, .int .i64 0, .int .i64 0])], σ⟩) (by kernel_rfl) ?_)
  refine Post_seq (Post_draw [] ⟨[(0, .int .i64 h), (1, .int .i64 n), (2, .int .i64 l), (3, .int .i64 number), (8, .lp 8 0)], [(8, [.int .i64 0, .int .i64 0, .int .i64 0, .int .i64 0])], σ⟩ ⟨[(0, .int .i64 h), (1, .int .i64 n), (2, .int .i64 l), (3, .int .i64 number), (8, .lp 8 0)], [(8, [.int .i64 h, .int .i64 l, .int .i64 number, .int .i64 (if (D : Int) - X < P then (D : Int) - X else P)])], σ⟩ rfl (by kernel_rfl) ?_ (by simp [Tryz.results45]))
  simp (maxSteps := 4000000) [List.getElem?_cons_zero, List.getElem?_cons_succ, hm, hb, hs, hn1, w1, hf, hn2, w2, w3]
end Go.Proofs.Tryz.Ai
end
section
/- Tiles: which one has a hash; the document's. -/
namespace Go.Proofs.Tryz.Ai
open Go Go.AI Go.Proofs
set_option maxHeartbeats 6000000
set_option linter.unusedVariables false

def tileOk (h n v k : Int) : Prop := 1 ≤ h ∧ h ≤ 8 ∧ 0 ≤ n ∧ n ≤ 1048576 ∧ inP n v k = true
instance (h n v k : Int) : Decidable (tileOk h n v k) := by unfold tileOk; infer_instance
/-- the number of the tile that has a hash -/
def tileN (h v k : Nat) : Nat := k * 2 ^ (v % h) / 2 ^ h
theorem TileOf_no (h n v k : Int) (hno : ¬ tileOk h n v k) (σ) : ev 10 [.int .i64 h, .int .i64 n, .int .i64 v, .int .i64 k] σ = some (.tup [tileA 0 0 0 0, .int .i64 6], σ) := by
  simp only [tileA]
  refine EV_post rfl Tryz.func10 rfl (by simp [Tryz.ntmps10]) (by kernel_rfl) (by kernel_rfl) ?_
  by_cases h1 : h < 1
  · simp (maxSteps := 4000000) [List.getElem?_cons_zero, List.getElem?_cons_succ, h1, Tryz.results10]
  · by_cases h2 : 8 < h
    · simp (maxSteps := 4000000) [List.getElem?_cons_zero, List.getElem?_cons_succ, h1, h2, Tryz.results10]
    · by_cases h3 : n < 0
      · simp (maxSteps := 4000000) [List.getElem?_cons_zero, List.getElem?_cons_succ, h1, h2, h3, Tryz.results10]
      · by_cases h4 : 1048576 < n
        · simp (maxSteps := 4000000) [List.getElem?_cons_zero, List.getElem?_cons_succ, h1, h2, h3, h4, Tryz.results10]
        · have hW := within_eq n v k (by omega)
          have hb : decide (0 ≤ v ∧ v ≤ 20 ∧ 0 ≤ k ∧ k < n.fdiv (2 ^ v.toNat)) = false := by
            cases hc : decide (0 ≤ v ∧ v ≤ 20 ∧ 0 ≤ k ∧ k < n.fdiv (2 ^ v.toNat)) with
            | false => rfl
            | true => exact absurd (show tileOk h n v k from ⟨by omega, by omega, by omega, by omega, hc⟩) hno
          rw [hb] at hW
          simp (maxSteps := 4000000) [List.getElem?_cons_zero, List.getElem?_cons_succ, h1, h2, h3, h4, hW, Tryz.results10]
theorem tileN_le (h v k n : Nat) (hh : 1 ≤ h) (hk : (k + 1) * 2 ^ v ≤ n) (hn : n ≤ 1048576) : k * 2 ^ (v % h) ≤ 1048576 ∧ tileN h v k ≤ 1048576 := by
  have h1 : 2 ^ (v % h) ≤ 2 ^ v := Nat.pow_le_pow_right (by omega) (Nat.mod_le _ _)
  have h2 : k * 2 ^ (v % h) ≤ (k + 1) * 2 ^ v := Nat.mul_le_mul (by omega) h1
  refine ⟨by omega, ?_⟩
  unfold tileN
  have := Nat.div_le_self (k * 2 ^ (v % h)) (2 ^ h)
  omega
theorem TileOf_yes (h n v k : Nat) (h1 : 1 ≤ h) (h8 : h ≤ 8) (hn : n ≤ 1048576) (hv : v ≤ 20) (hk : (k + 1) * 2 ^ v ≤ n) (σ) :
    ev 10 [.int .i64 h, .int .i64 n, .int .i64 v, .int .i64 k] σ = some (.tup [tileA h (v / h : Nat) (tileN h v k) (wideN h n (v / h) (tileN h v k)), .int .i64 0], σ) := by
  have hW := within_eq n v k (by omega)
  have hb : decide (0 ≤ (v : Int) ∧ (v : Int) ≤ 20 ∧ 0 ≤ (k : Int) ∧ (k : Int) < (n : Int).fdiv (2 ^ (v : Int).toNat)) = true := inP_of hv hk
  rw [hb] at hW
  obtain ⟨t1, t2⟩ := tileN_le h v k n h1 hk hn
  have hdl : v / h ≤ v := Nat.div_le_self _ _
  have hml : h * (v / h) ≤ v := Nat.mul_div_le _ _
  have hwd := wide_eq h n (v / h) (tileN h v k) h8 (by omega) hn (by omega)
  have hh0 : ¬ h = 0 := by omega
  have d1 : (v : Int).tdiv h = ((v / h : Nat) : Int) := by rw [Int.tdiv_eq_ediv_of_nonneg (by omega)]; simp
  have w0 : IntKind.i64.wrap ((v / h : Nat) : Int) = ((v / h : Nat) : Int) := by generalize v / h = G at *; exact wrap64 (by omega)
  have w1 : IntKind.i64.wrap ((h : Int) * ((v / h : Nat) : Int)) = ((h * (v / h) : Nat) : Int) := by
    rw [← Int.natCast_mul]; generalize h * (v / h) = G at *; exact wrap64 (by omega)
  have hmod : v - h * (v / h) = v % h := by have := Nat.div_add_mod v h; omega
  have w2 : IntKind.i64.wrap ((v : Int) - ((h * (v / h) : Nat) : Int)) = ((v % h : Nat) : Int) := by
    rw [← hmod]; generalize h * (v / h) = G at *; rw [wrap64 (by omega)]; omega
  have hmm : min (v % h) 64 = v % h := by have := Nat.mod_le v h; omega
  have w3 : IntKind.i64.wrap ((k : Int) * 2 ^ (v % h)) = ((k * 2 ^ (v % h) : Nat) : Int) := by
    rw [show (k : Int) * 2 ^ (v % h) = ((k * 2 ^ (v % h) : Nat) : Int) by simp]
    generalize k * 2 ^ (v % h) = X at *
    exact wrap64 (by omega)
  have hm : min h 64 = h := by omega
  have w4 : ((k * 2 ^ (v % h) : Nat) : Int).fdiv (2 ^ h) = (tileN h v k : Int) := by rw [fdiv_pow]; rfl
  have hbt : IntKind.i64.bits = 64 := rfl
  have n1 : ¬ (h : Int) < 0 := by omega
  have n2 : ¬ ((v % h : Nat) : Int) < 0 := by omega
  have c1 : ¬ h < 1 := by omega
  have c2 : ¬ 8 < h := by omega
  have c3 : ¬ 1048576 < n := by omega
  simp only [tileA] at hwd ⊢
  generalize tileN h v k = Z at *
  generalize wideN h n (v / h) Z = Y at *
  generalize k * 2 ^ (v % h) = X at *
  generalize v % h = M at *
  generalize h * (v / h) = G at *
  generalize v / h = D at *
  refine EV_post rfl Tryz.func10 rfl (by simp [Tryz.ntmps10]) (by kernel_rfl) (by kernel_rfl) ?_
  simp (maxSteps := 4000000) [List.getElem?_cons_zero, List.getElem?_cons_succ, c1, c2, c3, hW, hh0, d1, w0, w1, w2, hmm, hbt, w3, hm, w4, n1, n2, hwd, Tryz.results10]
end Go.Proofs.Tryz.Ai
end
section
/- Tiles: the document's numbers. -/
namespace Go.Proofs.Tryz.Ai
open Go Go.AI Go.Proofs
set_option maxHeartbeats 6000000
set_option maxRecDepth 2000
set_option linter.unusedVariables false

theorem Tile_eq (H L N W : Int) (σ) : ev 20 [tileA H L N W] σ = some (tileA H L N W, σ) := by
  simp only [tileA]
  refine EV_post rfl Tryz.func20 rfl (by simp [Tryz.ntmps20]) (by kernel_rfl) (by kernel_rfl) ?_
  simp (maxSteps := 4000000) [List.getElem?_cons_zero, List.getElem?_cons_succ, Tryz.results20]
theorem rTileOf_no (h n v k : Int) (hno : ¬ tileOk h n v k) (σ) : ev 18 [.int .i64 h, .int .i64 n, .int .i64 v, .int .i64 k] σ = some (.tup [tileA 0 0 0 0, .int .i64 6], σ) := by
  simp only [tileA]
  refine EV_post rfl Tryz.func18 rfl (by simp [Tryz.ntmps18]) (by kernel_rfl) (by kernel_rfl) ?_
  by_cases h1 : h < 1
  · simp (maxSteps := 4000000) [List.getElem?_cons_zero, List.getElem?_cons_succ, h1, Tryz.results18]
  · by_cases h2 : 8 < h
    · simp (maxSteps := 4000000) [List.getElem?_cons_zero, List.getElem?_cons_succ, h1, h2, Tryz.results18]
    · by_cases h3 : n < 0
      · simp (maxSteps := 4000000) [List.getElem?_cons_zero, List.getElem?_cons_succ, h1, h2, h3, Tryz.results18]
      · by_cases h4 : 1048576 < n
        · simp (maxSteps := 4000000) [List.getElem?_cons_zero, List.getElem?_cons_succ, h1, h2, h3, h4, Tryz.results18]
        · obtain ⟨m, rfl⟩ := Int.eq_ofNat_of_zero_le (show 0 ≤ n by omega)
          have hT := There_eq m (by omega) v k
          have hb : inP m v k = false := by
            cases hc : inP m v k with
            | false => rfl
            | true => exact absurd (show tileOk h m v k from ⟨by omega, by omega, by omega, by omega, hc⟩) hno
          rw [hb] at hT
          have h4' : ¬ 1048576 < m := by omega
          simp (maxSteps := 4000000) [List.getElem?_cons_zero, List.getElem?_cons_succ, h1, h2, h4', hT, Tryz.results18]
theorem rTileOf_yes (h n v k : Nat) (h1 : 1 ≤ h) (h8 : h ≤ 8) (hn : n ≤ 1048576) (hv : v ≤ 20) (hk : (k + 1) * 2 ^ v ≤ n) (σ) :
    ev 18 [.int .i64 h, .int .i64 n, .int .i64 v, .int .i64 k] σ = some (.tup [tileA h (v / h : Nat) (tileN h v k) (wideN h n (v / h) (tileN h v k)), .int .i64 0], σ) := by
  have hT := There_eq n hn v k
  rw [inP_of hv hk] at hT
  obtain ⟨t1, t2⟩ := tileN_le h v k n h1 hk hn
  have hml : h * (v / h) ≤ v := Nat.mul_div_le _ _
  have hmod : v - h * (v / h) = v % h := by have := Nat.div_add_mod v h; omega
  have hm8 : v % h < h := Nat.mod_lt _ (by omega)
  have p1 := Power_eq (v % h) (by omega)
  have p2 := Power_eq h (by omega)
  have p3 := Power_eq (h * (v / h)) (by omega)
  have hp := pow8 h8
  have hq1 : 0 < 2 ^ h := Nat.two_pow_pos _
  have hq3 : 0 < 2 ^ (h * (v / h)) := Nat.two_pow_pos _
  have hh0 : ¬ h = 0 := by omega
  have d1 : (v : Int).tdiv h = ((v / h : Nat) : Int) := by rw [Int.tdiv_eq_ediv_of_nonneg (by omega)]; simp
  have hdl : v / h ≤ v := Nat.div_le_self _ _
  have w0 : IntKind.i64.wrap ((v / h : Nat) : Int) = ((v / h : Nat) : Int) := by generalize v / h = G at *; exact wrap64 (by omega)
  have w1 : IntKind.i64.wrap ((h : Int) * ((v / h : Nat) : Int)) = ((h * (v / h) : Nat) : Int) := by
    rw [← Int.natCast_mul]; generalize h * (v / h) = G at *; exact wrap64 (by omega)
  have w2 : IntKind.i64.wrap ((v : Int) - ((h * (v / h) : Nat) : Int)) = ((v % h : Nat) : Int) := by
    rw [← hmod]; generalize h * (v / h) = G at *; rw [wrap64 (by omega)]; omega
  have w3 : IntKind.i64.wrap ((k : Int) * ((2 ^ (v % h) : Nat) : Int)) = ((k * 2 ^ (v % h) : Nat) : Int) := by
    rw [← Int.natCast_mul]; generalize k * 2 ^ (v % h) = X at *; exact wrap64 (by omega)
  have d2 : ((k * 2 ^ (v % h) : Nat) : Int).tdiv ((2 ^ h : Nat) : Int) = (tileN h v k : Int) := by
    rw [Int.tdiv_eq_ediv_of_nonneg (Int.natCast_nonneg _)]; rfl
  have w4 : IntKind.i64.wrap (tileN h v k : Int) = (tileN h v k : Int) := by generalize tileN h v k = Z at *; exact wrap64 (by omega)
  have d3 : (n : Int).tdiv ((2 ^ (h * (v / h)) : Nat) : Int) = ((n / 2 ^ (h * (v / h)) : Nat) : Int) := by
    rw [Int.tdiv_eq_ediv_of_nonneg (by omega)]; simp
  have hnd : n / 2 ^ (h * (v / h)) ≤ n := Nat.div_le_self _ _
  have w5 : IntKind.i64.wrap ((n / 2 ^ (h * (v / h)) : Nat) : Int) = ((n / 2 ^ (h * (v / h)) : Nat) : Int) := by
    generalize n / 2 ^ (h * (v / h)) = Y at *; exact wrap64 (by omega)
  have hkp : tileN h v k * 2 ^ h ≤ 1048576 * 256 := Nat.mul_le_mul t2 hp
  have w6 : IntKind.i64.wrap ((tileN h v k : Int) * ((2 ^ h : Nat) : Int)) = ((tileN h v k * 2 ^ h : Nat) : Int) := by
    rw [← Int.natCast_mul]; generalize tileN h v k * 2 ^ h = X at *; exact wrap64 (by omega)
  have w7 : IntKind.i64.wrap (((n / 2 ^ (h * (v / h)) : Nat) : Int) - ((tileN h v k * 2 ^ h : Nat) : Int)) = ((n / 2 ^ (h * (v / h)) : Nat) : Int) - ((tileN h v k * 2 ^ h : Nat) : Int) := by
    clear w6 d2 d3
    generalize n / 2 ^ (h * (v / h)) = Y at *
    generalize tileN h v k * 2 ^ h = X at *
    exact wrap64 (by omega)
  have hmin : (if ((2 ^ h : Nat) : Int) < ((n / 2 ^ (h * (v / h)) : Nat) : Int) - ((tileN h v k * 2 ^ h : Nat) : Int) then ((2 ^ h : Nat) : Int) else ((n / 2 ^ (h * (v / h)) : Nat) : Int) - ((tileN h v k * 2 ^ h : Nat) : Int)) = wideN h n (v / h) (tileN h v k) := by
    unfold wideN
    generalize ((n / 2 ^ (h * (v / h)) : Nat) : Int) - ((tileN h v k * 2 ^ h : Nat) : Int) = A
    generalize ((2 ^ h : Nat) : Int) = B
    split <;> split <;> omega
  have c1 : ¬ h < 1 := by omega
  have c2 : ¬ 8 < h := by omega
  have c3 : ¬ 1048576 < n := by omega
  simp only [tileA]
  obtain ⟨wd, hwd⟩ : ∃ wd, wideN h n (v / h) (tileN h v k) = wd := ⟨_, rfl⟩
  rw [hwd] at hmin ⊢
  have z1 : ¬ ((2 ^ h : Nat) : Int) = 0 := by omega
  have z3 : ¬ ((2 ^ (h * (v / h)) : Nat) : Int) = 0 := by omega
  clear hwd hkp hnd t1 t2 hm8 hmod hml hdl hk hq1 hq3 hp
  generalize hP : ((2 ^ h : Nat) : Int) = P at *
  generalize hP3 : ((2 ^ (h * (v / h)) : Nat) : Int) = P3 at *
  generalize hP1 : ((2 ^ (v % h) : Nat) : Int) = P1 at *
  generalize ((n / 2 ^ (h * (v / h)) : Nat) : Int) = Q at *
  generalize ((tileN h v k * 2 ^ h : Nat) : Int) = X at *
  generalize ((k * 2 ^ (v % h) : Nat) : Int) = Y at *
  generalize tileN h v k = Z at *
  generalize v % h = M at *
  generalize h * (v / h) = G at *
  generalize v / h = D at *
  refine EV_post rfl Tryz.func18 rfl (by simp [Tryz.ntmps18]) (by kernel_rfl) (by kernel_rfl) ?_
  simp (maxSteps := 4000000) [List.getElem?_cons_zero, List.getElem?_cons_succ, c1, c2, c3, hT, hh0, d1, w0, w1, w2, p1, p2, p3, z1, z3, w3, d2, w4, d3, w5, w6, w7, hmin, Tryz.results18]
end Go.Proofs.Tryz.Ai
end
section
/- Tiles: is one within some records; the document's. -/
namespace Go.Proofs.Tryz.Ai
open Go Go.AI Go.Proofs
set_option maxHeartbeats 8000000
set_option maxRecDepth 4000
set_option linter.unusedVariables false

def numP (H L N W : Int) : Prop := 1 ≤ H ∧ H ≤ 8 ∧ 0 ≤ L ∧ L ≤ 20 ∧ H * L ≤ 20 ∧ 0 ≤ N ∧ N ≤ 1048576 ∧ 1 ≤ W ∧ W ≤ ((2 ^ H.toNat : Nat) : Int)
instance (H L N W : Int) : Decidable (numP H L N W) := by unfold numP; infer_instance
theorem tileP_num (n : Nat) (H L N W : Int) : tileP n H L N W ↔ numP H L N W ∧ (N.toNat * 2 ^ H.toNat + W.toNat) * 2 ^ (H * L).toNat ≤ n := by
  unfold tileP fitsP numP
  constructor
  · rintro ⟨⟨a, b, c, d, e, f⟩, g, h, i⟩
    refine ⟨⟨a, b, c, ?_, g, d, h, e, f⟩, i⟩
    have : L ≤ H * L := by
      have := Int.mul_le_mul_of_nonneg_right a c
      omega
    omega
  · rintro ⟨⟨a, b, c, _, g, d, h, e, f⟩, i⟩
    exact ⟨⟨a, b, c, d, e, f⟩, g, h, i⟩
theorem Within_eq (n : Nat) (hn : n ≤ 1048576) (H L N W : Int) (σ) : ev 62 [tileA H L N W, .int .i64 n] σ = some (.bool (decide (tileP n H L N W)), σ) := by
  simp only [tileA]
  refine EV_post rfl Tryz.func62 rfl (by simp [Tryz.ntmps62]) (by kernel_rfl) (by kernel_rfl) ?_
  refine Post_seq (Post_reg (st1 := ⟨[(0, .agg [.int .i64 H, .int .i64 L, .int .i64 N, .int .i64 W]), (1, .int .i64 n), (2, .lp 2 0), (4, .bool false)], [(2, [.int .i64 H, .int .i64 L, .int .i64 N, .int .i64 W])], σ⟩) (by kernel_rfl) ?_)
  refine Post_seq (Post_seq (Post_draw [] ⟨[(0, .agg [.int .i64 H, .int .i64 L, .int .i64 N, .int .i64 W]), (1, .int .i64 n), (2, .lp 2 0), (4, .bool false)], [(2, [.int .i64 H, .int .i64 L, .int .i64 N, .int .i64 W])], σ⟩ ⟨[(0, .agg [.int .i64 H, .int .i64 L, .int .i64 N, .int .i64 W]), (1, .int .i64 n), (2, .lp 2 0), (4, .bool false), (53, .bool (!decide (numP H L N W)))], [(2, [.int .i64 H, .int .i64 L, .int .i64 N, .int .i64 W])], σ⟩ rfl (by kernel_rfl) ?_ ?_))
  · by_cases h1 : H < 1
    · have hd : numP H L N W ↔ False := ⟨fun h => by have := h.1; omega, fun h => h.elim⟩
      simp (maxSteps := 4000000) [List.getElem?_cons_zero, List.getElem?_cons_succ, h1, hd]
    · by_cases h2 : 8 < H
      · have hd : numP H L N W ↔ False := ⟨fun h => by have := h.2.1; omega, fun h => h.elim⟩
        simp (maxSteps := 4000000) [List.getElem?_cons_zero, List.getElem?_cons_succ, h1, h2, hd]
      · by_cases h3 : L < 0
        · have hd : numP H L N W ↔ False := ⟨fun h => by have := h.2.2.1; omega, fun h => h.elim⟩
          simp (maxSteps := 4000000) [List.getElem?_cons_zero, List.getElem?_cons_succ, h1, h2, h3, hd]
        · by_cases h4 : 20 < L
          · have hd : numP H L N W ↔ False := ⟨fun h => by have := h.2.2.2.1; omega, fun h => h.elim⟩
            simp (maxSteps := 4000000) [List.getElem?_cons_zero, List.getElem?_cons_succ, h1, h2, h3, h4, hd]
          · obtain ⟨h, rfl⟩ := Int.eq_ofNat_of_zero_le (show 0 ≤ H by omega)
            obtain ⟨l, rfl⟩ := Int.eq_ofNat_of_zero_le (show 0 ≤ L by omega)
            have hhl : h * l ≤ 8 * 20 := Nat.mul_le_mul (by omega) (by omega)
            have w1 : IntKind.i64.wrap ((h : Int) * l) = ((h * l : Nat) : Int) := by
              rw [← Int.natCast_mul]; generalize h * l = G at *; exact wrap64 (by omega)
            have h1' : ¬ h < 1 := by omega
            have h2' : ¬ 8 < h := by omega
            have h4' : ¬ 20 < l := by omega
            have hmul : ((h : Int) * l ≤ 20) ↔ h * l ≤ 20 := by rw [← Int.natCast_mul]; omega
            have p1 := Power_eq h (by omega)
            have hnum : numP h l N W ↔ h * l ≤ 20 ∧ 0 ≤ N ∧ N ≤ 1048576 ∧ 1 ≤ W ∧ W ≤ ((2 ^ h : Nat) : Int) := by
              unfold numP; rw [hmul, Int.toNat_natCast]
              constructor
              · rintro ⟨_, _, _, _, a⟩; exact a
              · rintro a; exact ⟨by omega, by omega, by omega, by omega, a⟩
            generalize h * l = G at *
            generalize ((2 ^ h : Nat) : Int) = P at *
            by_cases h5 : 20 < G
            · have hd : numP h l N W ↔ False := ⟨fun x => by have := (hnum.1 x).1; omega, fun x => x.elim⟩
              simp (maxSteps := 4000000) [List.getElem?_cons_zero, List.getElem?_cons_succ, h1', h2', h4', w1, h5, hd]
            · by_cases h6 : N < 0
              · have hd : numP h l N W ↔ False := ⟨fun x => by have := (hnum.1 x).2.1; omega, fun x => x.elim⟩
                simp (maxSteps := 4000000) [List.getElem?_cons_zero, List.getElem?_cons_succ, h1', h2', h4', w1, h5, h6, hd]
              · by_cases h7 : 1048576 < N
                · have hd : numP h l N W ↔ False := ⟨fun x => by have := (hnum.1 x).2.2.1; omega, fun x => x.elim⟩
                  simp (maxSteps := 4000000) [List.getElem?_cons_zero, List.getElem?_cons_succ, h1', h2', h4', w1, h5, h6, h7, hd]
                · by_cases h8 : W < 1
                  · have hd : numP h l N W ↔ False := ⟨fun x => by have := (hnum.1 x).2.2.2.1; omega, fun x => x.elim⟩
                    simp (maxSteps := 4000000) [List.getElem?_cons_zero, List.getElem?_cons_succ, h1', h2', h4', w1, h5, h6, h7, h8, hd]
                  · by_cases h9 : P < W
                    · have hd : numP h l N W ↔ False := ⟨fun x => by have := (hnum.1 x).2.2.2.2; omega, fun x => x.elim⟩
                      simp (maxSteps := 4000000) [List.getElem?_cons_zero, List.getElem?_cons_succ, h1', h2', h4', w1, h5, h6, h7, h8, p1, h9, hd]
                    · have hd : numP h l N W ↔ True := ⟨fun _ => trivial, fun _ => hnum.2 ⟨by omega, by omega, by omega, by omega, by omega⟩⟩
                      simp (maxSteps := 4000000) [List.getElem?_cons_zero, List.getElem?_cons_succ, h1', h2', h4', w1, h5, h6, h7, h8, p1, h9, hd]
  · by_cases hN : numP H L N W
    · have hb : (!decide (numP H L N W)) = false := by simp [hN]
      rw [hb]
      obtain ⟨a1, a2, a3, a4, a5, a6, a7, a8, a9⟩ := hN
      have hT : tileP n H L N W ↔ (N.toNat * 2 ^ H.toNat + W.toNat) * 2 ^ (H * L).toNat ≤ n := by
        rw [tileP_num]; exact ⟨fun x => x.2, fun x => ⟨⟨a1, a2, a3, a4, a5, a6, a7, a8, a9⟩, x⟩⟩
      obtain ⟨h, rfl⟩ := Int.eq_ofNat_of_zero_le (show 0 ≤ H by omega)
      obtain ⟨l, rfl⟩ := Int.eq_ofNat_of_zero_le (show 0 ≤ L by omega)
      obtain ⟨k, rfl⟩ := Int.eq_ofNat_of_zero_le (show 0 ≤ N by omega)
      obtain ⟨w, rfl⟩ := Int.eq_ofNat_of_zero_le (show 0 ≤ W by omega)
      simp only [Int.toNat_natCast, show ((h : Int) * (l : Int)).toNat = h * l by rw [← Int.natCast_mul]; rfl] at hT a9
      have hl20 : h * l ≤ 20 := by rw [← Int.natCast_mul] at a5; omega
      have hp := pow8 (h := h) (by omega)
      have p1 := Power_eq h (by omega)
      have p2 := Power_eq (h * l) (by omega)
      have w1 : IntKind.i64.wrap ((h : Int) * l) = ((h * l : Nat) : Int) := by
        rw [← Int.natCast_mul]; generalize h * l = G at *; exact wrap64 (by omega)
      have hkp : k * 2 ^ h ≤ 1048576 * 256 := Nat.mul_le_mul (by omega) hp
      have w2 : IntKind.i64.wrap ((k : Int) * ((2 ^ h : Nat) : Int)) = ((k * 2 ^ h : Nat) : Int) := by
        rw [← Int.natCast_mul]; generalize k * 2 ^ h = X at *; exact wrap64 (by omega)
      have hq : 0 < 2 ^ (h * l) := Nat.two_pow_pos _
      have d1 : (n : Int).tdiv ((2 ^ (h * l) : Nat) : Int) = ((n / 2 ^ (h * l) : Nat) : Int) := by
        rw [Int.tdiv_eq_ediv_of_nonneg (by omega)]; simp
      have hnd : n / 2 ^ (h * l) ≤ n := Nat.div_le_self _ _
      have w3 : IntKind.i64.wrap ((n / 2 ^ (h * l) : Nat) : Int) = ((n / 2 ^ (h * l) : Nat) : Int) := by
        generalize n / 2 ^ (h * l) = Y at *; exact wrap64 (by omega)
      have hw : w ≤ 256 := by
        generalize 2 ^ h = P at *
        omega
      have w4 : IntKind.i64.wrap (((k * 2 ^ h : Nat) : Int) + w) = ((k * 2 ^ h + w : Nat) : Int) := by
        clear w2 hT
        generalize k * 2 ^ h = X at *; rw [wrap64 (by omega)]; omega
      have hfin : (((k * 2 ^ h + w : Nat) : Int) ≤ ((n / 2 ^ (h * l) : Nat) : Int)) ↔ tileP n h l k w := by
        rw [hT, ← Nat.le_div_iff_mul_le hq]
        exact Int.ofNat_le
      have z2 : ¬ ((2 ^ (h * l) : Nat) : Int) = 0 := by omega
      clear hT hkp hnd hq a9 hp
      generalize ((2 ^ (h * l) : Nat) : Int) = P2 at *
      generalize ((n / 2 ^ (h * l) : Nat) : Int) = Y at *
      generalize ((k * 2 ^ h + w : Nat) : Int) = X at *
      generalize ((k * 2 ^ h : Nat) : Int) = X' at *
      generalize ((2 ^ h : Nat) : Int) = P at *
      generalize h * l = G at *
      simp (maxSteps := 4000000) [List.getElem?_cons_zero, List.getElem?_cons_succ, w1, p1, p2, w2, w4, z2, d1, w3, hfin, Tryz.results62]
    · have hd : ¬ tileP n H L N W := fun x => hN ((tileP_num n H L N W).1 x).1
      simp (maxSteps := 4000000) [List.getElem?_cons_zero, List.getElem?_cons_succ, hN, hd, Tryz.results62]
end Go.Proofs.Tryz.Ai
end
section
/- The document's hashes and proofs of leaves. -/
namespace Go.Proofs.Tryz.Ai
open Go Go.AI Go.Proofs
set_option maxHeartbeats 1000000
set_option linter.unusedVariables false

theorem rBytes_eq (o : Own) (l : List UInt8) (hl : l.length ≤ 2 ^ 39) (σ) : ev 72 [.sl o (l.map .u8)] σ = some (.sl (.ex 5 1) (l.map .u8), σ) := by
  refine EV_post rfl Tryz.func72 rfl (by simp [Tryz.ntmps72]) (by kernel_rfl) (by kernel_rfl) ?_
  simp (maxSteps := 4000000) [List.getElem?_cons_zero, List.getElem?_cons_succ, Tryz.results72]
  repeat (rw [need_of]; rotate_left; (· (try unfold most); omega); simp (maxSteps := 4000000) [List.getElem?_cons_zero, List.getElem?_cons_succ, Tryz.results72])
/-- the hash of leaves -/
def hashL (l : List (List UInt8)) : List UInt8 := if l.length = 0 then sha256 [] else spanT nodeB (leafF l) 0 l.length
theorem leafF_take {l : List (List UInt8)} {s i : Nat} (h : i < s) : leafF (l.take s) i = leafF l i := by
  simp [leafF, List.getD_eq_getElem?_getD, List.getElem?_take, h]
theorem leafF_drop {l : List (List UInt8)} {s i : Nat} : leafF (l.drop s) i = leafF l (s + i) := by
  simp [leafF, List.getD_eq_getElem?_getD, List.getElem?_drop]
theorem hashL_span {l : List (List UInt8)} {L : Nat → List UInt8} {f : Nat} (h1 : 1 ≤ l.length) (h : ∀ i, i < l.length → leafF l i = L (f + i)) : hashL l = spanT nodeB L f l.length := by
  unfold hashL
  rw [if_neg (by omega)]
  exact spanT_congr _ _ _ h1 fun i hi => by rw [Nat.zero_add]; exact h i hi
theorem hashL_split {l : List (List UInt8)} (h : 2 ≤ l.length) : hashL l = nodeB (hashL (l.take (halfN l.length))) (hashL (l.drop (halfN l.length))) := by
  have hs := halfN_spec h
  have e1 : (l.take (halfN l.length)).length = halfN l.length := by simp; omega
  have e2 : (l.drop (halfN l.length)).length = l.length - halfN l.length := by simp
  rw [hashL_span (l := l) (L := leafF l) (f := 0) (by omega) (fun i _ => by rw [Nat.zero_add]), spanT, dif_pos h,
    hashL_span (l := l.take (halfN l.length)) (L := leafF l) (f := 0) (by omega) (fun i hi => by rw [Nat.zero_add]; exact leafF_take (by omega)),
    hashL_span (l := l.drop (halfN l.length)) (L := leafF l) (f := halfN l.length) (by omega) (fun i hi => leafF_drop), e1, e2, Nat.zero_add]
theorem spanT_len (L : Nat → List UInt8) (f n : Nat) (h : ∀ i, (L i).length ≤ 2 ^ 27) : (spanT nodeB L f n).length ≤ 2 ^ 27 := by
  rw [spanT]; split
  · rw [nodeB_len]; omega
  · exact h f
theorem leafF_le (l : List (List UInt8)) (h : ∀ x ∈ l, x.length ≤ 2 ^ 27) (i : Nat) : (leafF l i).length ≤ 2 ^ 27 := by
  unfold leafF
  rw [List.getD_eq_getElem?_getD]
  cases hx : l[i]? with
  | none => simp
  | some x => simpa using h x (List.mem_of_getElem? hx)
theorem hashL_len (l : List (List UInt8)) (h : ∀ x ∈ l, x.length ≤ 2 ^ 27) : (hashL l).length ≤ 2 ^ 27 := by
  unfold hashL; split
  · rw [sha256_len]; omega
  · exact spanT_len _ _ _ (leafF_le l h)
theorem rHash_eq (n : Nat) : ∀ (l : List (List UInt8)), l.length = n → n ≤ 2 ^ 30 → (∀ x ∈ l, x.length ≤ 2 ^ 27) → ∀ σ, ev 63 [.sl .sh (hs l)] σ = some (.sl (.ex 5 1) ((hashL l).map .u8), σ) := by
  induction n using Nat.strongRecOn with
  | _ n ih =>
    intro l hn hb hx σ
    by_cases h0 : n = 0
    · have hl : l = [] := List.eq_nil_of_length_eq_zero (by omega)
      subst hl
      have hS : ∀ σ, ev 74 [.sl .sh []] σ = some (.sl (.ex 5 1) ((sha256 []).map .u8), σ) := fun σ => rSHA256_eq .sh [] (by simp) σ
      have hP : hashL [] = sha256 [] := rfl
      refine EV_post rfl Tryz.func63 rfl (by simp [Tryz.ntmps63]) (by kernel_rfl) (by kernel_rfl) ?_
      simp (maxSteps := 4000000) [List.getElem?_cons_zero, List.getElem?_cons_succ, hs, hS, hP, Tryz.results63]
    · by_cases h1 : n = 1
      · obtain ⟨x, rfl⟩ : ∃ x, l = [x] := by
          match l, hn with
          | [x], _ => exact ⟨x, rfl⟩
          | [], h => simp at h; omega
          | _ :: _ :: _, h => simp at h; omega
        have hB := rBytes_eq .sh x (by have := hx x (by simp); omega)
        have hP : hashL [x] = x := by simp [hashL, spanT, leafF]
        refine EV_post rfl Tryz.func63 rfl (by simp [Tryz.ntmps63]) (by kernel_rfl) (by kernel_rfl) ?_
        simp (maxSteps := 4000000) [List.getElem?_cons_zero, List.getElem?_cons_succ, hs, hB, hP, Tryz.results63]
      · have h2 : 2 ≤ l.length := by omega
        have hs' := halfN_spec h2
        have hH := split_eq l.length h2 (by omega)
        have i1 := ih (halfN l.length) (by omega) (l.take (halfN l.length)) (by simp; omega) (by omega) (fun x h => hx x (List.mem_of_mem_take h))
        have i2 := ih (l.length - halfN l.length) (by omega) (l.drop (halfN l.length)) (by simp) (by omega) (fun x h => hx x (List.mem_of_mem_drop h))
        have hN := rNode_eq (.ex 5 1) (.ex 5 1) (hashL (l.take (halfN l.length))) (hashL (l.drop (halfN l.length)))
          (by have := hashL_len (l.take (halfN l.length)) (fun x h => hx x (List.mem_of_mem_take h)); omega) (by have := hashL_len (l.drop (halfN l.length)) (fun x h => hx x (List.mem_of_mem_drop h)); omega)
        have hN2 := rNode_eq .sh .sh (hashL (l.take (halfN l.length))) (hashL (l.drop (halfN l.length)))
          (by have := hashL_len (l.take (halfN l.length)) (fun x h => hx x (List.mem_of_mem_take h)); omega) (by have := hashL_len (l.drop (halfN l.length)) (fun x h => hx x (List.mem_of_mem_drop h)); omega)
        rw [hashL_split h2]
        generalize hashL (l.take (halfN l.length)) = X at *
        generalize hashL (l.drop (halfN l.length)) = Y at *
        simp only [hs, List.map_take] at i1
        simp only [hs, List.map_drop] at i2
        have hl0 : ¬ l.length = 0 := by omega
        have hl1 : ¬ l.length = 1 := by omega
        obtain ⟨t, ht⟩ : ∃ t, halfN l.length = t := ⟨_, rfl⟩
        rw [ht] at hH i1 i2 hs'
        have q0 : t ≤ l.length := by omega
        refine EV_post rfl Tryz.func63 rfl (by simp [Tryz.ntmps63]) (by kernel_rfl) (by kernel_rfl) ?_
        simp (maxSteps := 4000000) [List.getElem?_cons_zero, List.getElem?_cons_succ, hs, hl0, hl1, hH, q0, i1, i2, hN, hN2, Tryz.results63]
end Go.Proofs.Tryz.Ai
end
section
/- Hashes by a function that reads. -/
namespace Go.Proofs.Tryz.Ai
open Go Go.AI Go.Proofs
set_option maxHeartbeats 1000000
set_option linter.unusedVariables false

/-- a power of two's exponent -/
def lgN (n : Nat) : Option Nat := (List.range 21).find? fun v => 2 ^ v == n
theorem lgN_some {n v : Nat} (h : lgN n = some v) : v ≤ 20 ∧ 2 ^ v = n := by
  have h1 := List.find?_some h
  have h2 := List.mem_of_find?_eq_some h
  simp at h1 h2
  exact ⟨by omega, h1⟩
theorem lgN_none {n v : Nat} (h : lgN n = none) (hv : v ≤ 20) : ¬ 2 ^ v = n := by
  have := List.find?_eq_none.1 h v (by simp; omega)
  simpa using this
theorem level_eq (n : Nat) (hn : n ≤ 2 ^ 30) (σ) : ev 91 [.int .i64 n] σ = some (.int .i64 (match lgN n with | some v => (v : Int) | none => -1), σ) := by
  refine EV_post rfl Tryz.func91 rfl (by simp [Tryz.ntmps91]) (by kernel_rfl) (by kernel_rfl) ?_
  simp (maxSteps := 4000000) [List.getElem?_cons_zero, List.getElem?_cons_succ, ]
  refine Post_loop (I := fun v : Nat => ⟨[(0, .int .i64 n), (3, .int .i64 v)], [], σ⟩) (Pr := fun v => v ≤ 21 ∧ ∀ u, u < v → ¬ 2 ^ u = n) (μ := fun v => 21 - v) (a := 0) (by simp) (by simp) ?_
  rintro v ⟨hv, hu⟩
  by_cases hc : v ≤ 20
  · have w1 : IntKind.i64.wrap ((v : Int) + 1) = (v : Int) + 1 := wrap64 (by omega)
    obtain ⟨x, hx⟩ : ∃ x, 2 ^ v = x := ⟨_, rfl⟩
    have hx1 : x ≤ 2 ^ 20 := by rw [← hx]; exact Nat.pow_le_pow_right (by omega) hc
    have hmin : min v 64 = v := by omega
    have hpow : (2 : Int) ^ v = (x : Int) := by rw [← hx]; simp
    have hb : IntKind.i64.bits = 64 := rfl
    have w2 : IntKind.i64.wrap (x : Int) = (x : Int) := wrap64 (by omega)
    have hv0 : ¬ (v : Int) < 0 := by omega
    by_cases hq : x = n
    · have hl : lgN n = some v := by
        cases hg : lgN n with
        | none => exact absurd (hx.trans hq) (lgN_none hg hc)
        | some u =>
          have := lgN_some hg
          rw [← hq, ← hx] at this
          rw [(Nat.pow_right_inj (a := 2) (by omega)).1 this.2]
      rw [hq] at w2 hpow
      simp (maxSteps := 4000000) [List.getElem?_cons_zero, List.getElem?_cons_succ, hc, hb, hmin, hpow, w2, hv0, hl, Tryz.results91]
    · have hu2 : ∀ u, u < v + 1 → ¬ 2 ^ u = n := by
        intro u h1
        rcases Nat.lt_or_ge u v with h2 | h2
        · exact hu u h2
        · have : u = v := by omega
          subst this; rw [hx]; exact hq
      simp (maxSteps := 4000000) [List.getElem?_cons_zero, List.getElem?_cons_succ, hc, hb, hmin, hpow, w1, w2, hv0, hq]
      exact ⟨v + 1, ⟨by omega, hu2⟩, by omega, by simp⟩
  · have hl : lgN n = none := by
      cases hg : lgN n with
      | none => rfl
      | some u => exact absurd (lgN_some hg).2 (hu u (by have := (lgN_some hg).1; omega))
    have w0 : IntKind.i64.wrap (-1) = -1 := by decide
    simp (maxSteps := 4000000) [List.getElem?_cons_zero, List.getElem?_cons_succ, hc, hl, w0, Tryz.results91]
/-- a function that reads: what it answers at a count, and the count behind it -/
structure Rd where
  g : Nat
  cap : List AV
  S : Nat → List (List AV)
  R : Nat → Nat → Nat → List UInt8 × Int × Nat
structure RdOk (r : Rd) (A B : Nat) : Prop where
  lt : r.g < 100000
  pers : r.cap.map dem = r.cap ∧ ∀ c ∈ r.cap, AI.pers c = true
  run : ∀ j v k : Nat, v ≤ 20 → (k + 1) * 2 ^ v ≤ B → ev r.g (.int .i64 (v : Int) :: .int .i64 (k : Int) :: r.cap) (r.S j) = some (.tup [.sl .sh ((r.R j v k).1.map .u8), .int .i64 (r.R j v k).2.1], r.S (r.R j v k).2.2)
  len : ∀ j v k, (r.R j v k).1.length ≤ 2 ^ 20
  bad : ∀ j v k, -2 ^ 40 ≤ (r.R j v k).2.1 ∧ (r.R j v k).2.1 ≤ 2 ^ 40
  low : ∀ i j, lowS (r.S i) (r.S j)
  eq : ∀ j, (r.S j).length = A
def hashP (r : Rd) (f n j : Nat) : List UInt8 × Int × Nat := match lgN n with
  | some v => r.R j v (f / n)
  | none => if h : 2 ≤ n then
      let x := hashP r f (halfN n) j
      if x.2.1 ≠ 0 then ([], x.2.1, x.2.2) else
      let y := hashP r (f + halfN n) (n - halfN n) x.2.2
      if y.2.1 ≠ 0 then ([], y.2.1, y.2.2) else (nodeB x.1 y.1, 0, y.2.2)
    else ([], 0, j)
termination_by n
decreasing_by
  · exact (halfN_spec h).2.1
  · have := halfN_spec h; omega
theorem hashP_len {r : Rd} {A B : Nat} (h : RdOk r A B) (n : Nat) : ∀ f j, (hashP r f n j).1.length ≤ 2 ^ 20 ∧ -2 ^ 40 ≤ (hashP r f n j).2.1 ∧ (hashP r f n j).2.1 ≤ 2 ^ 40 := by
  induction n using Nat.strongRecOn with
  | _ n ih =>
    intro f j
    rw [hashP]
    split
    · exact ⟨h.len _ _ _, h.bad _ _ _⟩
    · split
      · rename_i h2
        have hs := halfN_spec h2
        dsimp only
        split
        · exact ⟨by simp, (ih _ hs.2.1 _ _).2⟩
        · split
          · exact ⟨by simp, (ih _ (by omega) _ _).2⟩
          · exact ⟨by rw [nodeB_len]; omega, by simp, by simp⟩
      · exact ⟨by simp, by simp, by simp⟩
theorem hash_eq {r : Rd} {A B : Nat} (h : RdOk r A B) (hB : B ≤ 2 ^ 30) (n : Nat) : ∀ f j, 1 ≤ n → algn f n → f + n ≤ B → ev 50 [.int .i64 f, .int .i64 n, .fn r.g r.cap] (r.S j) = some (.tup [.sl .sh ((hashP r f n j).1.map .u8), .int .i64 (hashP r f n j).2.1], r.S (hashP r f n j).2.2) := by
  induction n using Nat.strongRecOn with
  | _ n ih =>
    intro f j h1 ha hb
    have hL := level_eq n (by omega)
    have hcap := h.pers.1
    have hlt := h.lt
    refine EV_post rfl Tryz.func50 rfl (by simp [Tryz.ntmps50]) (by kernel_rfl) (by kernel_rfl) ?_
    cases hl : lgN n with
    | some v =>
      rw [hl] at hL
      simp only at hL
      have hv := lgN_some hl
      have hP : hashP r f n j = r.R j v (f / n) := by rw [hashP, hl]
      have hrun := h.run j v (f / n) hv.1 (by
        have e : f = f / n * n := by
          have := algn_pow (f := f) (l := v) (by rw [hv.2]; exact ha)
          rw [hv.2] at this; exact this
        rw [hv.2, Nat.add_mul, ← e, Nat.one_mul]; exact hb)
      have hlow := h.low j (r.R j v (f / n)).2.2
      have heq := h.eq (r.R j v (f / n)).2.2
      have heq0 := h.eq j
      rw [hP]
      obtain ⟨x, hx⟩ : ∃ x, r.R j v (f / n) = x := ⟨_, rfl⟩
      rw [hx] at hrun hlow heq ⊢
      have hn0 : ¬ n = 0 := by omega
      have hd : ((f : Int).tdiv n) = ((f / n : Nat) : Int) := by rw [Int.tdiv_eq_ediv_of_nonneg (by omega)]; simp
      have hkf := Nat.div_le_self f n
      obtain ⟨k, hk⟩ : ∃ k, f / n = k := ⟨_, rfl⟩
      rw [hk] at hd hrun hkf
      have w1 : IntKind.i64.wrap (k : Int) = (k : Int) := wrap64 (by omega)
      have hv0 : (0 : Int) ≤ (v : Int) := by omega
      simp (maxSteps := 4000000) [List.getElem?_cons_zero, List.getElem?_cons_succ, hL, hv0, hn0, hd, w1, hlt, hcap, hrun, Tryz.results50]
      rw [need_of hlow, List.take_of_length_le (by rw [heq, heq0]; exact Nat.le_refl _)]
    | none =>
      rw [hl] at hL
      simp only at hL
      have h2 : 2 ≤ n := by
        rcases Nat.lt_or_ge n 2 with q | q
        · have : n = 1 := by omega
          subst this
          exact absurd rfl (lgN_none hl (show 0 ≤ 20 by omega))
        · exact q
      have hs := halfN_spec h2
      obtain ⟨a1, a2⟩ := algn_half h2 ha
      have hH := half_eq n h2 (by omega)
      have i1 := ih _ hs.2.1 f j hs.1 a1 (by omega)
      have hlen1 := hashP_len h (halfN n) f j
      have i2 := ih (n - halfN n) (by omega) (f + halfN n) (hashP r f (halfN n) j).2.2 (by omega) a2 (by omega)
      have hlen2 := hashP_len h (n - halfN n) (f + halfN n) (hashP r f (halfN n) j).2.2
      have hP : hashP r f n j = if (hashP r f (halfN n) j).2.1 ≠ 0 then ([], (hashP r f (halfN n) j).2.1, (hashP r f (halfN n) j).2.2) else
          if (hashP r (f + halfN n) (n - halfN n) (hashP r f (halfN n) j).2.2).2.1 ≠ 0 then ([], (hashP r (f + halfN n) (n - halfN n) (hashP r f (halfN n) j).2.2).2.1, (hashP r (f + halfN n) (n - halfN n) (hashP r f (halfN n) j).2.2).2.2)
          else (nodeB (hashP r f (halfN n) j).1 (hashP r (f + halfN n) (n - halfN n) (hashP r f (halfN n) j).2.2).1, 0, (hashP r (f + halfN n) (n - halfN n) (hashP r f (halfN n) j).2.2).2.2) := by
        rw [hashP, hl]
        simp only
        rw [dif_pos h2]
      rw [hP]
      obtain ⟨x, hx⟩ : ∃ x, hashP r f (halfN n) j = x := ⟨_, rfl⟩
      rw [hx] at i1 i2 hlen1 hlen2 ⊢
      obtain ⟨y, hy⟩ : ∃ y, hashP r (f + halfN n) (n - halfN n) x.2.2 = y := ⟨_, rfl⟩
      rw [hy] at i2 hlen2 ⊢
      obtain ⟨t, ht⟩ : ∃ t, halfN n = t := ⟨_, rfl⟩
      rw [ht] at hH i1 i2 hs
      have w1 : IntKind.i64.wrap ((f : Int) + t) = ((f + t : Nat) : Int) := by rw [wrap64 (by omega)]; omega
      have w2 : IntKind.i64.wrap ((n : Int) - t) = ((n - t : Nat) : Int) := by rw [wrap64 (by omega)]; omega
      obtain ⟨ft, hft⟩ : ∃ z, f + t = z := ⟨_, rfl⟩
      obtain ⟨nt, hnt⟩ : ∃ z, n - t = z := ⟨_, rfl⟩
      rw [hft] at w1 i2
      rw [hnt] at w2 i2
      have hl1 := h.low j x.2.2
      have hl2 := h.low j y.2.2
      have he0 := h.eq j
      have he1 := h.eq x.2.2
      have he2 := h.eq y.2.2
      have hN := Node_eq .sh .sh x.1 y.1 (by omega) (by omega)
      by_cases c1 : x.2.1 = 0
      · rw [if_neg (by simpa using c1)]
        by_cases c2 : y.2.1 = 0
        · rw [if_neg (by simpa using c2)]
          simp (maxSteps := 4000000) [List.getElem?_cons_zero, List.getElem?_cons_succ, hL, hH, hlt, hcap, i1, i2, w1, w2, c1, c2, hN, Tryz.results50]
          rw [need_of hl2, List.take_of_length_le (by rw [he2, he0]; exact Nat.le_refl _)]
        · rw [if_pos c2]
          simp (maxSteps := 4000000) [List.getElem?_cons_zero, List.getElem?_cons_succ, hL, hH, hlt, hcap, i1, i2, w1, w2, c1, c2, Tryz.results50]
          rw [need_of hl2, List.take_of_length_le (by rw [he2, he0]; exact Nat.le_refl _)]
      · rw [if_pos c1]
        simp (maxSteps := 4000000) [List.getElem?_cons_zero, List.getElem?_cons_succ, hL, hH, hlt, hcap, i1, c1, Tryz.results50]
        rw [need_of hl1, List.take_of_length_le (by rw [he1, he0]; exact Nat.le_refl _)]
end Go.Proofs.Tryz.Ai
end
section
/- Hashes out of a tile's bytes. -/
namespace Go.Proofs.Tryz.Ai
open Go Go.AI Go.Proofs
set_option maxHeartbeats 8000000
set_option maxRecDepth 4000
set_option linter.unusedVariables false

/-- the hashes that stand side by side -/
def chunk (d : List UInt8) (i : Nat) : List UInt8 := (d.drop (32 * i)).take 32
theorem chunk_len (d : List UInt8) (i : Nat) : (chunk d i).length ≤ 2 ^ 20 := by simp [chunk]; omega
theorem inside_eq (v : Nat) : ∀ (d : List UInt8) (k : Nat), (k + 1) * 2 ^ v * 32 ≤ d.length → d.length ≤ 2 ^ 30 → v ≤ 40 → ∀ σ,
    ev 52 [.sl .sh (d.map .u8), .int .i64 v, .int .i64 k] σ = some (.sl (.ex 5 1) ((wholeT nodeB (chunk d) v k).map .u8), σ) := by
  induction v with
  | zero =>
    intro d k hk hd _ σ
    rw [Nat.pow_zero, Nat.mul_one] at hk
    have w1 : IntKind.i64.wrap (32 * (k : Int)) = ((32 * k : Nat) : Int) := by rw [wrap64 (by omega)]; omega
    have w2 : IntKind.i64.wrap ((k : Int) + 1) = ((k + 1 : Nat) : Int) := by rw [wrap64 (by omega)]; omega
    have w3 : IntKind.i64.wrap (32 * ((k + 1 : Nat) : Int)) = ((32 * k + 32 : Nat) : Int) := by rw [wrap64 (by omega)]; omega
    have hf := tfresh_eq .sh (chunk d k) (by have := chunk_len d k; omega)
    have hc : List.drop (32 * k) (List.take (32 * k + 32) (d.map AV.u8)) = (chunk d k).map AV.u8 := by
      rw [← List.map_take, ← List.map_drop]; congr 1
      unfold chunk
      rw [List.drop_take]; congr 1; omega
    rw [wholeT]
    have q1 : 32 * k ≤ 32 * k + 32 := by omega
    have q2 : 32 * k + 32 ≤ d.length := by omega
    obtain ⟨a, ha⟩ : ∃ a, 32 * k = a := ⟨_, rfl⟩
    obtain ⟨b, hb⟩ : ∃ b, a + 32 = b := ⟨_, rfl⟩
    rw [ha] at w1 w3 hc q1 q2
    rw [hb] at w3 hc q1 q2
    have hcast : ((k + 1 : Nat) : Int) = (k : Int) + 1 := by omega
    rw [hcast] at w2 w3
    refine EV_post rfl Tryz.func52 rfl (by simp [Tryz.ntmps52]) (by kernel_rfl) (by kernel_rfl) ?_
    simp (maxSteps := 4000000) [List.getElem?_cons_zero, List.getElem?_cons_succ, w1, w2, w3, q1, q2, hc, hf, Tryz.results52]
  | succ v ih =>
    intro d k hk hd hv σ
    have e : (2 * k + 1 + 1) * 2 ^ v = (k + 1) * 2 ^ (v + 1) := by rw [Nat.pow_succ, Nat.mul_comm (2 ^ v) 2, ← Nat.mul_assoc]; congr 1; omega
    have hp : 0 < 2 ^ v := Nat.two_pow_pos _
    have e2 : (2 * k + 1) * 2 ^ v ≤ (2 * k + 1 + 1) * 2 ^ v := Nat.mul_le_mul_right _ (by omega)
    have hk1 : k + 1 ≤ (k + 1) * 2 ^ (v + 1) := Nat.le_mul_of_pos_right _ (Nat.two_pow_pos _)
    have i1 := ih d (2 * k) (by omega) hd (by omega)
    have i2 := ih d (2 * k + 1) (by omega) hd (by omega)
    have l1 := wholeT_len (chunk d) v (2 * k) (chunk_len d)
    have l2 := wholeT_len (chunk d) v (2 * k + 1) (chunk_len d)
    rw [wholeT]
    have hN := Node_eq (.ex 5 1) (.ex 5 1) (wholeT nodeB (chunk d) v (2 * k)) (wholeT nodeB (chunk d) v (2 * k + 1)) (by omega) (by omega)
    have hN2 := Node_eq .sh .sh (wholeT nodeB (chunk d) v (2 * k)) (wholeT nodeB (chunk d) v (2 * k + 1)) (by omega) (by omega)
    have hkb : k ≤ 2 ^ 30 := by omega
    clear e e2 hk1 hk
    have w1 : IntKind.i64.wrap (((v + 1 : Nat) : Int) - 1) = (v : Int) := by rw [wrap64 (by omega)]; omega
    have w2 : IntKind.i64.wrap (2 * (k : Int)) = ((2 * k : Nat) : Int) := by rw [wrap64 (by omega)]; omega
    have w3 : IntKind.i64.wrap (((2 * k : Nat) : Int) + 1) = ((2 * k + 1 : Nat) : Int) := by rw [wrap64 (by omega)]; omega
    generalize wholeT nodeB (chunk d) v (2 * k) = X at *
    generalize wholeT nodeB (chunk d) v (2 * k + 1) = Y at *
    obtain ⟨a, ha⟩ : ∃ a, 2 * k = a := ⟨_, rfl⟩
    obtain ⟨b, hb⟩ : ∃ b, a + 1 = b := ⟨_, rfl⟩
    obtain ⟨c, hc⟩ : ∃ c, v + 1 = c := ⟨_, rfl⟩
    rw [ha] at w2 w3 i1 i2
    rw [hb] at w3 i2
    rw [hc] at w1 ⊢
    have hc0 : ¬ c = 0 := by omega
    refine EV_post rfl Tryz.func52 rfl (by simp [Tryz.ntmps52]) (by kernel_rfl) (by kernel_rfl) ?_
    simp (maxSteps := 4000000) [List.getElem?_cons_zero, List.getElem?_cons_succ, hc0, w1, w2, w3, i1, i2, hN, hN2, Tryz.results52]
end Go.Proofs.Tryz.Ai
end
section
/- A hash, by those in a tile. -/
namespace Go.Proofs.Tryz.Ai
open Go Go.AI Go.Proofs
set_option maxHeartbeats 8000000
set_option maxRecDepth 4000
set_option linter.unusedVariables false

/-- the reader of a tile's bytes -/
def tileRd (s : List (List AV)) (d : List UInt8) : Rd where
  g := 51
  cap := [.gp s.length 0 (some (35, 1))]
  S := fun _ => s ++ [[.sl .sh (d.map .u8)]]
  R := fun j v k => (wholeT nodeB (chunk d) v k, 0, j)
theorem tileRd_ok (s : List (List AV)) (d : List UInt8) (hd : d.length ≤ 2 ^ 30) (B : Nat) (hB : 32 * B ≤ d.length) : RdOk (tileRd s d) (s.length + 1) B := by
  refine ⟨by show 51 < 100000; decide, ⟨rfl, by simp [tileRd, AI.pers]⟩, fun j v k hv hk => ?_, fun j v k => wholeT_len _ _ _ (chunk_len d), fun j v k => by simp [tileRd], fun i j => fun b hb => .inl rfl, fun j => by simp [tileRd]⟩
  have hI := inside_eq v d k (by
    have := Nat.mul_le_mul_right 32 hk
    omega) hd (by omega)
  have hg : (s ++ [[AV.sl .sh (d.map .u8)]])[s.length]? = some [.sl .sh (d.map .u8)] := by simp
  simp only [tileRd]
  generalize wholeT nodeB (chunk d) v k = X at *
  generalize s ++ [[AV.sl .sh (d.map .u8)]] = S at *
  refine EV_post rfl Tryz.func51 rfl (by simp [Tryz.ntmps51]) (by kernel_rfl) (by kernel_rfl) ?_
  simp (maxSteps := 4000000) [List.getElem?_cons_zero, List.getElem?_cons_succ, -getElem?_pos, hg, hI, Tryz.results51]
/-- what a tile tells of a hash -/
def inTileQ (H L N W : Int) (d : List UInt8) (v k : Int) : List UInt8 × Int :=
  if ¬ (fitsP H L N W ∧ (d.length : Int) = 32 * W) then ([], 15) else
  if v < 0 ∨ k < 0 ∨ ((v.toNat / H.toNat : Nat) : Int) ≠ L then ([], 6) else
  if ((k.toNat / 2 ^ (H.toNat - v.toNat % H.toNat) : Nat) : Int) ≠ N ∨ W < ((k.toNat % 2 ^ (H.toNat - v.toNat % H.toNat) * 2 ^ (v.toNat % H.toNat) + 2 ^ (v.toNat % H.toNat) : Nat) : Int) then ([], 6) else
  (wholeT nodeB (chunk d) (v.toNat % H.toNat) (k.toNat % 2 ^ (H.toNat - v.toNat % H.toNat)), 0)
theorem lgN_pow (u : Nat) (hu : u ≤ 20) : lgN (2 ^ u) = some u := by
  cases hg : lgN (2 ^ u) with
  | none => exact absurd rfl (lgN_none hg hu)
  | some w =>
    have := lgN_some hg
    rw [(Nat.pow_right_inj (a := 2) (by omega)).1 this.2]
theorem InTile_eq (H L N W : Int) (d : List UInt8) (v k : Int) (hd : d.length ≤ 2 ^ 30) (hv : v < 2 ^ 63) (hk : k < 2 ^ 63) (s : List (List AV)) :
    ev 14 [tileA H L N W, .sl .sh (d.map .u8), .int .i64 v, .int .i64 k] s = some (.tup [.sl .sh ((inTileQ H L N W d v k).1.map .u8), .int .i64 (inTileQ H L N W d v k).2], s) := by
  have hF := fits_eq H L N W
  have hg : (s ++ [[AV.sl .sh (d.map .u8)]])[s.length]? = some [.sl .sh (d.map .u8)] := by simp
  have htk : (s ++ [[AV.sl .sh (d.map .u8)]]).take s.length = s := by simp
  have hlow : lowS s (s ++ [[AV.sl .sh (d.map .u8)]]) := fun b hb => .inl (by rw [List.getElem?_append_left hb])
  simp only [tileA] at hF ⊢
  refine EV_post rfl Tryz.func14 rfl (by simp [Tryz.ntmps14]) (by kernel_rfl) (by kernel_rfl) ?_
  by_cases hf : fitsP H L N W
  · rw [decide_eq_true hf] at hF
    have hW256 : W ≤ 256 := by
      have := pow8 (h := H.toNat) (by have := hf.2.1; omega)
      have := hf.2.2.2.2.2
      generalize 2 ^ H.toNat = P at *
      omega
    have w1 : IntKind.i64.wrap (32 * W) = 32 * W := wrap64 (by have := hf.2.2.2.2.1; omega)
    by_cases hl : (d.length : Int) = 32 * W
    · obtain ⟨f1, f2, f3, f4, f5, f6⟩ := hf
      have hno : ¬ ¬ (fitsP H L N W ∧ (d.length : Int) = 32 * W) := fun h => h ⟨⟨f1, f2, f3, f4, f5, f6⟩, hl⟩
      by_cases hv0 : v < 0
      · have hQ : inTileQ H L N W d v k = ([], 6) := by unfold inTileQ; rw [if_neg hno, if_pos (.inl hv0)]
        simp (maxSteps := 4000000) [List.getElem?_cons_zero, List.getElem?_cons_succ, -getElem?_pos, -regionA_true, hg, hF, w1, hl]
        refine Post_bndD [] _ (by rfl) (by simp (maxSteps := 4000000) [List.getElem?_cons_zero, List.getElem?_cons_succ, ]; exact rfl) ?_
        repeat (first
          | refine PostD_go _ (by rfl) (by rfl) (by simp (maxSteps := 4000000) [List.getElem?_cons_zero, List.getElem?_cons_succ, hv0]; exact rfl) (by first | exact .inl rfl | exact .inr rfl) (by rfl) ?_
          | refine PostD_no (by rfl) (by rfl) ?_)
        refine PostD_end ?_
        simp (maxSteps := 4000000) [List.getElem?_cons_zero, List.getElem?_cons_succ, hQ, need_of hlow, htk, Tryz.results14]
      · by_cases hk0 : k < 0
        · have hQ : inTileQ H L N W d v k = ([], 6) := by unfold inTileQ; rw [if_neg hno, if_pos (.inr (.inl hk0))]
          simp (maxSteps := 4000000) [List.getElem?_cons_zero, List.getElem?_cons_succ, -getElem?_pos, -regionA_true, hg, hF, w1, hl]
          refine Post_bndD [] _ (by rfl) (by simp (maxSteps := 4000000) [List.getElem?_cons_zero, List.getElem?_cons_succ, ]; exact rfl) ?_
          repeat (first
            | refine PostD_go _ (by rfl) (by rfl) (by simp (maxSteps := 4000000) [List.getElem?_cons_zero, List.getElem?_cons_succ, hv0, hk0]; exact rfl) (by first | exact .inl rfl | exact .inr rfl) (by rfl) ?_
            | refine PostD_no (by rfl) (by rfl) ?_)
          refine PostD_end ?_
          simp (maxSteps := 4000000) [List.getElem?_cons_zero, List.getElem?_cons_succ, hQ, need_of hlow, htk, Tryz.results14]
        · obtain ⟨h, rfl⟩ := Int.eq_ofNat_of_zero_le (show 0 ≤ H by omega)
          obtain ⟨l, rfl⟩ := Int.eq_ofNat_of_zero_le f3
          obtain ⟨m, rfl⟩ := Int.eq_ofNat_of_zero_le f4
          obtain ⟨w, rfl⟩ := Int.eq_ofNat_of_zero_le (show 0 ≤ W by omega)
          obtain ⟨a, rfl⟩ := Int.eq_ofNat_of_zero_le (show 0 ≤ v by omega)
          obtain ⟨b, rfl⟩ := Int.eq_ofNat_of_zero_le (show 0 ≤ k by omega)
          have hh0 : ¬ h = 0 := by omega
          have d1 : (a : Int).tdiv h = ((a / h : Nat) : Int) := by rw [Int.tdiv_eq_ediv_of_nonneg (by omega)]; simp
          have hal : a / h ≤ a := Nat.div_le_self _ _
          have w2 : IntKind.i64.wrap ((a / h : Nat) : Int) = ((a / h : Nat) : Int) := by generalize a / h = G at *; exact wrap64 (by omega)
          by_cases hL : ((a / h : Nat) : Int) = l
          · have hu : a % h < h := Nat.mod_lt _ (by omega)
            have r1 : (a : Int).tmod h = ((a % h : Nat) : Int) := by rw [Int.tmod_eq_emod_of_nonneg (by omega)]; simp
            have s1 := shl_one (a % h) (by omega)
            have s2 := shl_one (h - a % h) (by omega)
            have m1 : min (a % h) 64 = a % h := by omega
            have m2 : min (h - a % h) 64 = h - a % h := by omega
            rw [m1, Int.one_mul] at s1
            rw [m2, Int.one_mul] at s2
            have p1 := pow8 (h := a % h) (by omega)
            have p2 := pow8 (h := h - a % h) (by omega)
            have p2' : 0 < 2 ^ (h - a % h) := Nat.two_pow_pos _
            have p1' : 0 < 2 ^ (a % h) := Nat.two_pow_pos _
            have hq : b % 2 ^ (h - a % h) < 2 ^ (h - a % h) := Nat.mod_lt _ p2'
            have r2 : (b : Int).tmod ((2 ^ (h - a % h) : Nat) : Int) = ((b % 2 ^ (h - a % h) : Nat) : Int) := by rw [Int.tmod_eq_emod_of_nonneg (by omega)]; simp
            have w3 : IntKind.i64.wrap ((h : Int) - ((a % h : Nat) : Int)) = ((h - a % h : Nat) : Int) := by generalize a % h = G at *; rw [wrap64 (by omega)]; omega
            have hqp : b % 2 ^ (h - a % h) * 2 ^ (a % h) ≤ 256 * 256 := Nat.mul_le_mul (by omega) p1
            have w4 : IntKind.i64.wrap (((b % 2 ^ (h - a % h) : Nat) : Int) * 2 ^ (a % h)) = ((b % 2 ^ (h - a % h) * 2 ^ (a % h) : Nat) : Int) := by
              rw [show ((b % 2 ^ (h - a % h) : Nat) : Int) * 2 ^ (a % h) = ((b % 2 ^ (h - a % h) * 2 ^ (a % h) : Nat) : Int) by simp]
              generalize b % 2 ^ (h - a % h) * 2 ^ (a % h) = X at *
              exact wrap64 (by omega)
            have fd : (b : Int).fdiv (2 ^ (h - a % h)) = ((b / 2 ^ (h - a % h) : Nat) : Int) := fdiv_pow b _
            have w5 : IntKind.i64.wrap (((b % 2 ^ (h - a % h) * 2 ^ (a % h) : Nat) : Int) + ((2 ^ (a % h) : Nat) : Int)) = ((b % 2 ^ (h - a % h) * 2 ^ (a % h) + 2 ^ (a % h) : Nat) : Int) := by
              clear w4 s1 s2 r2
              generalize b % 2 ^ (h - a % h) * 2 ^ (a % h) = X at *
              generalize 2 ^ (a % h) = Y at *
              rw [wrap64 (by omega)]; omega
            have hno2 : ¬ ((a : Int) < 0 ∨ (b : Int) < 0 ∨ (((a : Int).toNat / (h : Int).toNat : Nat) : Int) ≠ l) := by simp only [Int.toNat_natCast]; omega
            have hQ0 : inTileQ h l m w d a b = if ((b / 2 ^ (h - a % h) : Nat) : Int) ≠ m ∨ (w : Int) < ((b % 2 ^ (h - a % h) * 2 ^ (a % h) + 2 ^ (a % h) : Nat) : Int) then ([], 6) else (wholeT nodeB (chunk d) (a % h) (b % 2 ^ (h - a % h)), 0) := by
              unfold inTileQ; rw [if_neg hno, if_neg hno2]; rfl
            have z2 : ¬ ((2 ^ (h - a % h) : Nat) : Int) = 0 := by omega
            have hh := hash_eq (tileRd_ok s d hd w (by omega)) (by omega) (2 ^ (a % h)) (b % 2 ^ (h - a % h) * 2 ^ (a % h)) 0 p1' ⟨a % h, Nat.le_refl _, ⟨b % 2 ^ (h - a % h), Nat.mul_comm _ _⟩⟩
            have hP : b % 2 ^ (h - a % h) * 2 ^ (a % h) + 2 ^ (a % h) ≤ w → hashP (tileRd s d) (b % 2 ^ (h - a % h) * 2 ^ (a % h)) (2 ^ (a % h)) 0 = (wholeT nodeB (chunk d) (a % h) (b % 2 ^ (h - a % h)), 0, 0) := by
              intro hle
              have hdv : b % 2 ^ (h - a % h) * 2 ^ (a % h) / 2 ^ (a % h) = b % 2 ^ (h - a % h) := Nat.mul_div_cancel _ p1'
              rw [hashP, lgN_pow _ (by omega)]
              simp only [tileRd, hdv]
            have n1 : ¬ ((a % h : Nat) : Int) < 0 := by omega
            have n2 : ¬ ((h - a % h : Nat) : Int) < 0 := by omega
            have hbt : IntKind.i64.bits = 64 := rfl
            rw [hQ0]
            clear hQ0 hqp hq p1 p2 p2' p1' hno hno2 hal
            simp only [tileRd] at hh hP
            obtain ⟨Z, hZ⟩ : ∃ Z, wholeT nodeB (chunk d) (a % h) (b % 2 ^ (h - a % h)) = Z := ⟨_, rfl⟩
            rw [hZ] at hP ⊢
            obtain ⟨first, hfirst⟩ : ∃ x, b % 2 ^ (h - a % h) * 2 ^ (a % h) = x := ⟨_, rfl⟩
            rw [hfirst] at w4 w5 hh hP ⊢
            obtain ⟨size, hsize⟩ : ∃ x, 2 ^ (a % h) = x := ⟨_, rfl⟩
            rw [hsize] at s1 w5 hh hP ⊢
            generalize ((b % 2 ^ (h - a % h) : Nat) : Int) = Q at *
            generalize ((b / 2 ^ (h - a % h) : Nat) : Int) = D at *
            generalize ((2 ^ (h - a % h) : Nat) : Int) = Y at *
            generalize hS : s ++ [[AV.sl .sh (d.map .u8)]] = S at *
            obtain ⟨t, ht⟩ : ∃ t, h - a % h = t := ⟨_, rfl⟩
            rw [ht] at w3 m2 s2 fd n2
            obtain ⟨u, huu⟩ : ∃ u, a % h = u := ⟨_, rfl⟩
            rw [huu] at r1 m1 s1 w3 w4 n1
            obtain ⟨G, hGG⟩ : ∃ G : Int, ((a / h : Nat) : Int) = G := ⟨_, rfl⟩
            rw [hGG] at d1 w2 hL
            rw [hL] at d1 w2
            clear hGG huu ht hZ hfirst hsize hu
            by_cases c1 : D = m
            · by_cases c2 : (w : Int) < ((first + size : Nat) : Int)
              · rw [if_pos (.inr c2)]
                generalize ((first + size : Nat) : Int) = E at *
                simp (maxSteps := 4000000) [List.getElem?_cons_zero, List.getElem?_cons_succ, -getElem?_pos, -regionA_true, hS, hg, hF, w1, hl]
                refine Post_bndD [] _ (by rfl) (by simp (maxSteps := 4000000) [List.getElem?_cons_zero, List.getElem?_cons_succ, ]; exact rfl) ?_
                repeat (first
                  | refine PostD_go _ (by rfl) (by rfl) (by simp (maxSteps := 4000000) [List.getElem?_cons_zero, List.getElem?_cons_succ, hh0, d1, w2, hL]; exact rfl) (by first | exact .inl rfl | exact .inr rfl) (by rfl) ?_
                  | refine PostD_no (by rfl) (by rfl) ?_)
                refine PostD_end ?_
                simp (maxSteps := 4000000) [List.getElem?_cons_zero, List.getElem?_cons_succ, -getElem?_pos, -regionA_true, hh0, r1, m1, hbt, n1, s1, w3, m2, n2, s2, z2, r2, w4]
                refine Post_bndD [] _ (by rfl) (by simp (maxSteps := 4000000) [List.getElem?_cons_zero, List.getElem?_cons_succ, ]; exact rfl) ?_
                repeat (first
                  | refine PostD_go _ (by rfl) (by rfl) (by simp (maxSteps := 4000000) [List.getElem?_cons_zero, List.getElem?_cons_succ, w3, m2, hbt, n2, fd, c1, w5, c2]; exact rfl) (by first | exact .inl rfl | exact .inr rfl) (by rfl) ?_
                  | refine PostD_no (by rfl) (by rfl) ?_)
                refine PostD_end ?_
                simp (maxSteps := 4000000) [List.getElem?_cons_zero, List.getElem?_cons_succ, need_of hlow, htk, Tryz.results14]
              · rw [if_neg (by rintro (h | h); exact h c1; exact c2 h)]
                have hle : first + size ≤ w := by omega
                have hh' := hh hle
                rw [hP hle] at hh'
                generalize ((first + size : Nat) : Int) = E at *
                simp (maxSteps := 4000000) [List.getElem?_cons_zero, List.getElem?_cons_succ, -getElem?_pos, -regionA_true, hS, hg, hF, w1, hl]
                refine Post_bndD [] _ (by rfl) (by simp (maxSteps := 4000000) [List.getElem?_cons_zero, List.getElem?_cons_succ, ]; exact rfl) ?_
                repeat (first
                  | refine PostD_go _ (by rfl) (by rfl) (by simp (maxSteps := 4000000) [List.getElem?_cons_zero, List.getElem?_cons_succ, hh0, d1, w2, hL]; exact rfl) (by first | exact .inl rfl | exact .inr rfl) (by rfl) ?_
                  | refine PostD_no (by rfl) (by rfl) ?_)
                refine PostD_end ?_
                simp (maxSteps := 4000000) [List.getElem?_cons_zero, List.getElem?_cons_succ, -getElem?_pos, -regionA_true, hh0, r1, m1, hbt, n1, s1, w3, m2, n2, s2, z2, r2, w4]
                refine Post_bndD [] _ (by rfl) (by simp (maxSteps := 4000000) [List.getElem?_cons_zero, List.getElem?_cons_succ, ]; exact rfl) ?_
                repeat (first
                  | refine PostD_go _ (by rfl) (by rfl) (by simp (maxSteps := 4000000) [List.getElem?_cons_zero, List.getElem?_cons_succ, w3, m2, hbt, n2, fd, c1, w5, c2]; exact rfl) (by first | exact .inl rfl | exact .inr rfl) (by rfl) ?_
                  | refine PostD_no (by rfl) (by rfl) ?_)
                refine PostD_end ?_
                simp (maxSteps := 4000000) [List.getElem?_cons_zero, List.getElem?_cons_succ, hh', need_of hlow, htk, Tryz.results14]
            · rw [if_pos (.inl c1)]
              simp (maxSteps := 4000000) [List.getElem?_cons_zero, List.getElem?_cons_succ, -getElem?_pos, -regionA_true, hS, hg, hF, w1, hl]
              refine Post_bndD [] _ (by rfl) (by simp (maxSteps := 4000000) [List.getElem?_cons_zero, List.getElem?_cons_succ, ]; exact rfl) ?_
              repeat (first
                | refine PostD_go _ (by rfl) (by rfl) (by simp (maxSteps := 4000000) [List.getElem?_cons_zero, List.getElem?_cons_succ, hh0, d1, w2, hL]; exact rfl) (by first | exact .inl rfl | exact .inr rfl) (by rfl) ?_
                | refine PostD_no (by rfl) (by rfl) ?_)
              refine PostD_end ?_
              simp (maxSteps := 4000000) [List.getElem?_cons_zero, List.getElem?_cons_succ, -getElem?_pos, -regionA_true, hh0, r1, m1, hbt, n1, s1, w3, m2, n2, s2, z2, r2, w4]
              refine Post_bndD [] _ (by rfl) (by simp (maxSteps := 4000000) [List.getElem?_cons_zero, List.getElem?_cons_succ, ]; exact rfl) ?_
              repeat (first
                | refine PostD_go _ (by rfl) (by rfl) (by simp (maxSteps := 4000000) [List.getElem?_cons_zero, List.getElem?_cons_succ, w3, m2, hbt, n2, fd, c1]; exact rfl) (by first | exact .inl rfl | exact .inr rfl) (by rfl) ?_
                | refine PostD_no (by rfl) (by rfl) ?_)
              refine PostD_end ?_
              simp (maxSteps := 4000000) [List.getElem?_cons_zero, List.getElem?_cons_succ, need_of hlow, htk, Tryz.results14]
          · have hQ : inTileQ h l m w d a b = ([], 6) := by unfold inTileQ; rw [if_neg hno, if_pos (.inr (.inr (by simpa using hL)))]
            generalize ((a / h : Nat) : Int) = G at *
            simp (maxSteps := 4000000) [List.getElem?_cons_zero, List.getElem?_cons_succ, -getElem?_pos, -regionA_true, hg, hF, w1, hl]
            refine Post_bndD [] _ (by rfl) (by simp (maxSteps := 4000000) [List.getElem?_cons_zero, List.getElem?_cons_succ, ]; exact rfl) ?_
            repeat (first
              | refine PostD_go _ (by rfl) (by rfl) (by simp (maxSteps := 4000000) [List.getElem?_cons_zero, List.getElem?_cons_succ, hh0, d1, w2, hL]; exact rfl) (by first | exact .inl rfl | exact .inr rfl) (by rfl) ?_
              | refine PostD_no (by rfl) (by rfl) ?_)
            refine PostD_end ?_
            simp (maxSteps := 4000000) [List.getElem?_cons_zero, List.getElem?_cons_succ, hQ, need_of hlow, htk, Tryz.results14]
    · have hQ : inTileQ H L N W d v k = ([], 15) := by unfold inTileQ; rw [if_pos (by rintro ⟨_, h⟩; exact hl h)]
      simp (maxSteps := 4000000) [List.getElem?_cons_zero, List.getElem?_cons_succ, -getElem?_pos, hg, hF, w1, hl, hQ, need_of hlow, htk, Tryz.results14]
  · rw [decide_eq_false hf] at hF
    have hQ : inTileQ H L N W d v k = ([], 15) := by unfold inTileQ; rw [if_pos (by rintro ⟨h, _⟩; exact hf h)]
    simp (maxSteps := 4000000) [List.getElem?_cons_zero, List.getElem?_cons_succ, -getElem?_pos, hg, hF, hQ, need_of hlow, htk, Tryz.results14]
end Go.Proofs.Tryz.Ai
end
section
/- Tiles: a number in three digits. -/
namespace Go.Proofs.Tryz.Ai
open Go Go.AI Go.Proofs
set_option maxHeartbeats 4000000
set_option maxRecDepth 4000
set_option linter.unusedVariables false

theorem Itoa_eq (n : Nat) (hn : n < 10 ^ 18) (σ) : ev 54 [.int .i64 n] σ = some (.str (Lib.decDigits n), σ) := by
  rw [ev_Itoa]
  have : Lib.itoa (n : Int) = Lib.decDigits n := by unfold Lib.itoa; rw [if_neg (by omega)]; simp
  simp only [itoaT]
  rw [need_of (by omega), this]
theorem dec_len (n : Nat) (hn : n < 1000) : (Lib.decDigits n).length ≤ 3 := by
  have h : ∀ m : Fin 1000, (Lib.decDigits m.val).length ≤ 3 := by decide +kernel
  exact h ⟨n, hn⟩
theorem three_eq (n : Nat) (hn : n < 1000) (σ) : ev 53 [.int .i64 n] σ = some (.str (threeN n), σ) := by
  refine EV_post rfl Tryz.func53 rfl (by simp [Tryz.ntmps53]) (by kernel_rfl) (by kernel_rfl) ?_
  have hl := dec_len n hn
  have h1 := Itoa_eq n (by omega)
  obtain ⟨c, hc⟩ : ∃ c, (Lib.decDigits n).length = c := ⟨_, rfl⟩
  have w1 : IntKind.i64.wrap (3 - (c : Int)) = ((3 - c : Nat) : Int) := by rw [wrap64 (by omega)]; omega
  have h2 : ∀ σ, ev 93 [.str [48], .int .i64 ((3 - c : Nat) : Int)] σ = some (.str (Lib.repeatL [48] (3 - c)), σ) := by
    intro σ
    rw [ev_Repeat]
    simp only [repeatT]
    rw [need_of (by refine ⟨by omega, by omega, ?_⟩; simp; omega)]
    simp
  have h3 : (Lib.repeatL [48] (3 - c)).length = 3 - c := by clear h1 h2 w1 hc hl; generalize 3 - c = k; induction k with | zero => rfl | succ k ih => simp_all [Lib.repeatL]
  have h4 : (Lib.repeatL [48] (3 - c)).length + c ≤ most := by rw [h3, most]; omega
  simp (maxSteps := 4000000) [List.getElem?_cons_zero, List.getElem?_cons_succ, h1, hc, w1, h2, need_of h4, threeN, Tryz.results53]
end Go.Proofs.Tryz.Ai
end
section
/- Where a tile is found: both sides print it. -/
namespace Go.Proofs.Tryz.Ai
open Go Go.AI Go.Proofs
set_option maxHeartbeats 8000000
set_option maxRecDepth 4000
set_option linter.unusedVariables false

section
variable {P : Program} {h : Hint} {C : Oracle}
/-- a region apart from what follows it -/
theorem Post_bndR {ops : List Oper} {d : Bool} {st : St} {F : St → St} {K : Ex → St → Prop} (st2 : St) (e : bnd (regionA P h C ops d st) (fun st => some (F st)) = some st2) (k : K .normal st2) : Post (bnd (regionA P h C ops d st) fun st => some (Ex.normal, F st)) K := by
  obtain ⟨s, h1, h2⟩ := bnd_eq e
  rw [h1]
  injection h2 with h2
  subst h2
  exact ⟨_, _, rfl, k⟩
end
theorem rthree_eq (n : Nat) (hn : n < 1000) (σ) : ev 64 [.int .i64 n] σ = some (.str (threeN n), σ) := by
  have hl := dec_len n hn
  have h1 := Itoa_eq n (by omega)
  obtain ⟨D, hD⟩ : ∃ D, Lib.decDigits n = D := ⟨_, rfl⟩
  have hT : threeN n = Lib.repeatL [48] (3 - D.length) ++ D := by unfold threeN; rw [hD]
  rw [hD] at h1 hl
  rw [hT]
  refine EV_post rfl Tryz.func64 rfl (by simp [Tryz.ntmps64]) (by kernel_rfl) (by kernel_rfl) ?_
  simp (maxSteps := 4000000) [List.getElem?_cons_zero, List.getElem?_cons_succ, h1]
  refine Post_loop (I := fun p : Nat => ⟨[(3, .str (Lib.repeatL [48] p ++ D))], [], σ⟩) (Pr := fun p => p ≤ 3 - D.length) (μ := fun p => 3 - p) (a := 0) (by simp [Lib.repeatL]) (by simp) ?_
  intro p hp
  have h3 : (Lib.repeatL [48] p).length = p := by rw [Lib.repeatL_length]; simp
  obtain ⟨R, hR⟩ : ∃ R, Lib.repeatL [48] p = R := ⟨_, rfl⟩
  have hR1 : Lib.repeatL [48] (p + 1) = 48 :: R := by rw [← hR]; rfl
  rw [hR] at h3 ⊢
  obtain ⟨c, hc⟩ : ∃ c, D.length = c := ⟨_, rfl⟩
  rw [hc] at hp hl
  by_cases hlt : p + c < 3
  · have hlt' : (p : Int) + (c : Int) < 3 := by omega
    have hm : R.length + D.length + 1 ≤ most := by unfold most; omega
    simp (maxSteps := 4000000) [List.getElem?_cons_zero, List.getElem?_cons_succ, h3, hc, hlt, hlt']
    repeat (rw [need_of]; rotate_left; (· (try unfold most); omega); simp (maxSteps := 4000000) [List.getElem?_cons_zero, List.getElem?_cons_succ, h3, hc, hlt, hlt'])
    exact ⟨p + 1, by omega, by omega, by rw [hR1]; simp⟩
  · have hlt' : ¬ (p : Int) + (c : Int) < 3 := by omega
    have e : 3 - c = p := by omega
    simp (maxSteps := 4000000) [List.getElem?_cons_zero, List.getElem?_cons_succ, h3, hc, hlt, hlt', e, hR, Tryz.results64]
/-- where a tile is found, of any numbers -/
def pathQ (H L N W : Int) : List UInt8 × Int := if tileP 1048576 H L N W then (pathT H.toNat L.toNat N.toNat W.toNat, 0) else ([], 15)
theorem tile_bound {h l k w : Nat} (ht : tileP 1048576 h l k w) : 1 ≤ h ∧ h ≤ 8 ∧ l ≤ 20 ∧ k < 524288 ∧ 1 ≤ w ∧ w ≤ 256 ∧ w ≤ 2 ^ h := by
  have hn := ((tileP_num 1048576 h l k w).1 ht).1
  have hb := ((tileP_num 1048576 h l k w).1 ht).2
  obtain ⟨a1, a2, a3, a4, a5, a6, a7, a8, a9⟩ := hn
  simp only [Int.toNat_natCast] at hb a9
  have hp := pow8 (h := h) (by omega)
  have h2 : 2 ^ 1 ≤ 2 ^ h := Nat.pow_le_pow_right (by omega) (by omega)
  have hq : 0 < 2 ^ ((h : Int) * l).toNat := Nat.two_pow_pos _
  have hb2 : k * 2 ^ h + w ≤ 1048576 := Nat.le_trans (Nat.le_mul_of_pos_right _ hq) hb
  have hk2 : k * 2 ≤ k * 2 ^ h := Nat.mul_le_mul_left _ (by omega)
  have hw : w ≤ 2 ^ h := by exact Int.ofNat_le.1 a9
  refine ⟨by omega, by omega, by omega, by omega, by omega, by omega, hw⟩
theorem nT_len {n : Nat} (h : n < 1000000) : (nT n).length ≤ 8 := by
  unfold nT
  split
  · rename_i q; rw [three_len q]; omega
  · have q1 : n / 1000 < 1000 := by omega
    have q2 : n % 1000 < 1000 := by omega
    have a1 := three_len q1
    have a2 := three_len q2
    simp only [List.length_append, List.length_cons]; omega
theorem Path_eq (H L N W : Int) (σ) : ev 15 [tileA H L N W] σ = some (.tup [.str (pathQ H L N W).1, .int .i64 (pathQ H L N W).2], σ) := by
  have hI : ∀ σ, ev 47 [tileA H L N W, .int .i64 1048576] σ = some (.bool (decide (tileP 1048576 H L N W)), σ) := fun σ => in_eq 1048576 (by omega) H L N W σ
  by_cases ht : tileP 1048576 H L N W
  · have hQ : pathQ H L N W = (pathT H.toNat L.toNat N.toNat W.toNat, 0) := by unfold pathQ; rw [if_pos ht]
    rw [hQ]
    rw [decide_eq_true ht] at hI
    obtain ⟨a1, a2, a3, a4, a5, a6, a7, a8, a9⟩ := ((tileP_num 1048576 H L N W).1 ht).1
    obtain ⟨h, rfl⟩ := Int.eq_ofNat_of_zero_le (show 0 ≤ H by omega)
    obtain ⟨l, rfl⟩ := Int.eq_ofNat_of_zero_le (show 0 ≤ L by omega)
    obtain ⟨k, rfl⟩ := Int.eq_ofNat_of_zero_le (show 0 ≤ N by omega)
    obtain ⟨w, rfl⟩ := Int.eq_ofNat_of_zero_le (show 0 ≤ W by omega)
    obtain ⟨b1, b2, b3, b4, b5, b6, b7⟩ := tile_bound ht
    simp only [Int.toNat_natCast]
    have k1 : k % 1000 < 1000 := by omega
    have hT1 := three_eq (k % 1000) k1
    have hT2 : ∀ m : Nat, m < 1000 → ∀ σ, ev 53 [.int .i64 m] σ = some (.str (threeN m), σ) := fun m hm σ => three_eq m hm σ
    have r1 : (k : Int).tmod 1000 = ((k % 1000 : Nat) : Int) := by rw [Int.tmod_eq_emod_of_nonneg (by omega)]; omega
    have d1 : (k : Int).tdiv 1000 = ((k / 1000 : Nat) : Int) := by rw [Int.tdiv_eq_ediv_of_nonneg (by omega)]; omega
    have hkd : k / 1000 < 1000 := by omega
    have w1 : IntKind.i64.wrap ((k / 1000 : Nat) : Int) = ((k / 1000 : Nat) : Int) := wrap64 (by omega)
    have hIh := Itoa_eq h (by omega)
    have hIl := Itoa_eq l (by omega)
    have hIw := Itoa_eq w (by omega)
    have s1 := shl_one h (by omega)
    have m1 : min h 64 = h := by omega
    rw [m1, Int.one_mul] at s1
    have l1 := decDigits_len 2 h (by omega)
    have l2 := decDigits_len 2 l (by omega)
    have l3 := decDigits_len 2 w (by omega)
    have ln := nT_len (n := k) (by omega)
    have hP : pathT h l k w = (tileB ++ [47] ++ Lib.decDigits h ++ [47] ++ Lib.decDigits l ++ [47] ++ nT k) ++ (if w = 2 ^ h then [] else [46, 112, 47] ++ Lib.decDigits w) := by simp [pathT, bodyT]
    rw [hP]
    clear hP hQ
    have hn1 : ¬ (h : Int) < 0 := by omega
    have hbt : IntKind.i64.bits = 64 := rfl
    have hcast : ((w : Int) = ((2 ^ h : Nat) : Int)) ↔ w = 2 ^ h := by omega
    obtain ⟨A, hA⟩ : ∃ A, Lib.decDigits h = A := ⟨_, rfl⟩
    obtain ⟨B, hB⟩ : ∃ B, Lib.decDigits l = B := ⟨_, rfl⟩
    obtain ⟨D, hD⟩ : ∃ D, Lib.decDigits w = D := ⟨_, rfl⟩
    obtain ⟨M, hM⟩ : ∃ M, nT k = M := ⟨_, rfl⟩
    rw [hA] at hIh l1 ⊢
    rw [hB] at hIl l2 ⊢
    rw [hD] at hIw l3 ⊢
    rw [hM] at ln ⊢
    obtain ⟨pw, hpw⟩ : ∃ pw, 2 ^ h = pw := ⟨_, rfl⟩
    rw [hpw] at s1 hcast ⊢
    have hx : k / 1000 = 0 → threeN (k % 1000) = M := fun e => by
      rw [← hM]; unfold nT; rw [if_pos (by omega)]; congr 1; omega
    have hy : ¬ k / 1000 = 0 → 120 :: (threeN (k / 1000) ++ 47 :: threeN (k % 1000)) = M := fun e => by
      rw [← hM]; unfold nT; rw [if_neg (by omega)]; rfl
    have t1 := three_len k1
    simp only [tileA] at hI ⊢
    obtain ⟨q, hq⟩ : ∃ q, k / 1000 = q := ⟨_, rfl⟩
    rw [hq] at d1 hkd w1 hx hy
    obtain ⟨r, hr⟩ : ∃ r, k % 1000 = r := ⟨_, rfl⟩
    rw [hr] at r1 hT1 hx hy t1
    clear hA hB hD hM ht
    refine EV_post rfl Tryz.func15 rfl (by simp [Tryz.ntmps15]) (by kernel_rfl) (by kernel_rfl) ?_
    simp (maxSteps := 4000000) [List.getElem?_cons_zero, List.getElem?_cons_succ, hI, r1, d1, w1, hT1]
    refine Post_loop (I := fun p : Nat × List UInt8 => ⟨[(1, .lp 1 0), (4, .str p.2), (5, .int .i64 p.1)], [(1, [.int .i64 h, .int .i64 l, .int .i64 k, .int .i64 w])], σ⟩)
      (Pr := fun p => (p.1 = q ∧ p.2 = threeN r ∧ ¬ q = 0) ∨ (p.1 = 0 ∧ p.2 = M)) (μ := fun p => p.1) (a := (q, threeN r)) (by simp) (by
        by_cases e : q = 0
        · exact .inr ⟨e, hx e⟩
        · exact .inl ⟨rfl, rfl, e⟩) ?_
    rintro ⟨p, s⟩ (⟨hp, hs, hq0⟩ | ⟨hp, hs⟩)
    · simp only at hp hs
      subst hp hs
      have g0 : 0 < p := by omega
      have r2 : (p : Int).tmod 1000 = (p : Int) := by rw [Int.tmod_eq_emod_of_nonneg (by omega)]; omega
      have d2 : (p : Int).tdiv 1000 = 0 := by rw [Int.tdiv_eq_ediv_of_nonneg (by omega)]; omega
      have w2 : IntKind.i64.wrap 0 = 0 := wrap64 (by omega)
      have t2 := three_len hkd
      have hT3 := hT2 p hkd
      have hy' := hy (by omega)
      obtain ⟨X, hX⟩ : ∃ X, threeN p = X := ⟨_, rfl⟩
      obtain ⟨Y, hY⟩ : ∃ Y, threeN r = Y := ⟨_, rfl⟩
      rw [hX] at t2 hT3 hy'
      rw [hY] at t1 hy' ⊢
      simp (maxSteps := 4000000) [List.getElem?_cons_zero, List.getElem?_cons_succ, g0, r2, d2, w2, hT3]
      repeat (rw [need_of]; rotate_left; (· (try unfold most); omega); simp (maxSteps := 4000000) [List.getElem?_cons_zero, List.getElem?_cons_succ, g0, r2, d2, w2, hT3])
      exact ⟨0, M, .inr ⟨rfl, rfl⟩, by omega, by rw [← hy']; simp⟩
    · simp only at hp hs
      subst hp hs
      by_cases hw : w = pw
      · have hww : ((w : Int) = (pw : Int)) := hcast.2 hw
        rw [if_pos hw]
        simp (maxSteps := 4000000) [List.getElem?_cons_zero, List.getElem?_cons_succ, -regionA_true]
        refine Post_bndR ⟨[(1, .lp 1 0), (4, .str (tileB ++ [47] ++ A ++ [47] ++ B ++ [47] ++ s)), (5, .int .i64 0)], [(1, [.int .i64 h, .int .i64 l, .int .i64 k, .int .i64 w])], σ⟩ ?_ ?_
        · simp (maxSteps := 4000000) [List.getElem?_cons_zero, List.getElem?_cons_succ, -List.append_assoc, hIh, hIl, tileB]
          repeat (rw [need_of]; rotate_left; (· (try unfold most); omega); simp (maxSteps := 4000000) [List.getElem?_cons_zero, List.getElem?_cons_succ, -List.append_assoc, hIh, hIl, tileB])
        simp (maxSteps := 4000000) [List.getElem?_cons_zero, List.getElem?_cons_succ, -regionA_true]
        refine Post_bndR ⟨[(1, .lp 1 0), (4, .str (tileB ++ [47] ++ A ++ [47] ++ B ++ [47] ++ s)), (5, .int .i64 0), (44, .bool false)], [(1, [.int .i64 h, .int .i64 l, .int .i64 k, .int .i64 w])], σ⟩ ?_ ?_
        · simp (maxSteps := 4000000) [List.getElem?_cons_zero, List.getElem?_cons_succ, m1, hbt, hn1, s1, hww]
        simp (maxSteps := 4000000) [List.getElem?_cons_zero, List.getElem?_cons_succ, Tryz.results15]
      · have hww : ¬ ((w : Int) = (pw : Int)) := fun e => hw (hcast.1 e)
        rw [if_neg hw]
        simp (maxSteps := 4000000) [List.getElem?_cons_zero, List.getElem?_cons_succ, -regionA_true]
        refine Post_bndR ⟨[(1, .lp 1 0), (4, .str (tileB ++ [47] ++ A ++ [47] ++ B ++ [47] ++ s)), (5, .int .i64 0)], [(1, [.int .i64 h, .int .i64 l, .int .i64 k, .int .i64 w])], σ⟩ ?_ ?_
        · simp (maxSteps := 4000000) [List.getElem?_cons_zero, List.getElem?_cons_succ, -List.append_assoc, hIh, hIl, tileB]
          repeat (rw [need_of]; rotate_left; (· (try unfold most); omega); simp (maxSteps := 4000000) [List.getElem?_cons_zero, List.getElem?_cons_succ, -List.append_assoc, hIh, hIl, tileB])
        simp (maxSteps := 4000000) [List.getElem?_cons_zero, List.getElem?_cons_succ, -regionA_true]
        refine Post_bndR ⟨[(1, .lp 1 0), (4, .str (tileB ++ [47] ++ A ++ [47] ++ B ++ [47] ++ s)), (5, .int .i64 0), (44, .bool true)], [(1, [.int .i64 h, .int .i64 l, .int .i64 k, .int .i64 w])], σ⟩ ?_ ?_
        · simp (maxSteps := 4000000) [List.getElem?_cons_zero, List.getElem?_cons_succ, m1, hbt, hn1, s1, hww]
        obtain ⟨Z, hZ⟩ : ∃ Z, tileB ++ [47] ++ A ++ [47] ++ B ++ [47] ++ s = Z := ⟨_, rfl⟩
        have hZl : Z.length ≤ 40 := by rw [← hZ]; simp [tileB]; omega
        rw [hZ]
        simp (maxSteps := 4000000) [List.getElem?_cons_zero, List.getElem?_cons_succ, -List.append_assoc, hIw, Tryz.results15]
        repeat (rw [need_of]; rotate_left; (· (try unfold most); omega); simp (maxSteps := 4000000) [List.getElem?_cons_zero, List.getElem?_cons_succ, -List.append_assoc, hIw, Tryz.results15])
        rw [← hZ]; simp
  · have hQ : pathQ H L N W = ([], 15) := by unfold pathQ; rw [if_neg ht]
    rw [decide_eq_false ht] at hI
    simp only [tileA] at hI ⊢
    refine EV_post rfl Tryz.func15 rfl (by simp [Tryz.ntmps15]) (by kernel_rfl) (by kernel_rfl) ?_
    simp (maxSteps := 4000000) [List.getElem?_cons_zero, List.getElem?_cons_succ, hI, hQ, Tryz.results15]
end Go.Proofs.Tryz.Ai
end
section
/- Where a tile is found: the document prints it. -/
namespace Go.Proofs.Tryz.Ai
open Go Go.AI Go.Proofs
set_option maxHeartbeats 8000000
set_option maxRecDepth 4000
set_option linter.unusedVariables false

theorem rPath_eq (H L N W : Int) (σ) : ev 22 [tileA H L N W] σ = some (.tup [.str (pathQ H L N W).1, .int .i64 (pathQ H L N W).2], σ) := by
  have hI : ∀ σ, ev 62 [tileA H L N W, .int .i64 1048576] σ = some (.bool (decide (tileP 1048576 H L N W)), σ) := fun σ => Within_eq 1048576 (by omega) H L N W σ
  by_cases ht : tileP 1048576 H L N W
  · have hQ : pathQ H L N W = (pathT H.toNat L.toNat N.toNat W.toNat, 0) := by unfold pathQ; rw [if_pos ht]
    rw [hQ]
    rw [decide_eq_true ht] at hI
    obtain ⟨a1, a2, a3, a4, a5, a6, a7, a8, a9⟩ := ((tileP_num 1048576 H L N W).1 ht).1
    obtain ⟨h, rfl⟩ := Int.eq_ofNat_of_zero_le (show 0 ≤ H by omega)
    obtain ⟨l, rfl⟩ := Int.eq_ofNat_of_zero_le (show 0 ≤ L by omega)
    obtain ⟨k, rfl⟩ := Int.eq_ofNat_of_zero_le (show 0 ≤ N by omega)
    obtain ⟨w, rfl⟩ := Int.eq_ofNat_of_zero_le (show 0 ≤ W by omega)
    obtain ⟨b1, b2, b3, b4, b5, b6, b7⟩ := tile_bound ht
    simp only [Int.toNat_natCast]
    have k1 : k % 1000 < 1000 := by omega
    have hT1 := rthree_eq (k % 1000) k1
    have hT2 : ∀ m : Nat, m < 1000 → ∀ σ, ev 64 [.int .i64 m] σ = some (.str (threeN m), σ) := fun m hm σ => rthree_eq m hm σ
    have r1 : (k : Int).tmod 1000 = ((k % 1000 : Nat) : Int) := by rw [Int.tmod_eq_emod_of_nonneg (by omega)]; omega
    have d1 : (k : Int).tdiv 1000 = ((k / 1000 : Nat) : Int) := by rw [Int.tdiv_eq_ediv_of_nonneg (by omega)]; omega
    have hkd : k / 1000 < 1000 := by omega
    have w1 : IntKind.i64.wrap ((k / 1000 : Nat) : Int) = ((k / 1000 : Nat) : Int) := wrap64 (by omega)
    have hIh := Itoa_eq h (by omega)
    have hIl := Itoa_eq l (by omega)
    have hIw := Itoa_eq w (by omega)
    have s1 := Power_eq h (by omega)
    have l1 := decDigits_len 2 h (by omega)
    have l2 := decDigits_len 2 l (by omega)
    have l3 := decDigits_len 2 w (by omega)
    have ln := nT_len (n := k) (by omega)
    have hP : pathT h l k w = (tileB ++ [47] ++ Lib.decDigits h ++ [47] ++ Lib.decDigits l ++ [47] ++ nT k) ++ (if w = 2 ^ h then [] else [46, 112, 47] ++ Lib.decDigits w) := by simp [pathT, bodyT]
    rw [hP]
    clear hP hQ
    have hn1 : ¬ (h : Int) < 0 := by omega
    have hbt : IntKind.i64.bits = 64 := rfl
    have hcast : ((w : Int) = ((2 ^ h : Nat) : Int)) ↔ w = 2 ^ h := by omega
    obtain ⟨A, hA⟩ : ∃ A, Lib.decDigits h = A := ⟨_, rfl⟩
    obtain ⟨B, hB⟩ : ∃ B, Lib.decDigits l = B := ⟨_, rfl⟩
    obtain ⟨D, hD⟩ : ∃ D, Lib.decDigits w = D := ⟨_, rfl⟩
    obtain ⟨M, hM⟩ : ∃ M, nT k = M := ⟨_, rfl⟩
    rw [hA] at hIh l1 ⊢
    rw [hB] at hIl l2 ⊢
    rw [hD] at hIw l3 ⊢
    rw [hM] at ln ⊢
    obtain ⟨pw, hpw⟩ : ∃ pw, 2 ^ h = pw := ⟨_, rfl⟩
    rw [hpw] at s1 hcast ⊢
    have hx : k / 1000 = 0 → threeN (k % 1000) = M := fun e => by
      rw [← hM]; unfold nT; rw [if_pos (by omega)]; congr 1; omega
    have hy : ¬ k / 1000 = 0 → 120 :: (threeN (k / 1000) ++ 47 :: threeN (k % 1000)) = M := fun e => by
      rw [← hM]; unfold nT; rw [if_neg (by omega)]; rfl
    have t1 := three_len k1
    simp only [tileA] at hI ⊢
    obtain ⟨q, hq⟩ : ∃ q, k / 1000 = q := ⟨_, rfl⟩
    rw [hq] at d1 hkd w1 hx hy
    obtain ⟨r, hr⟩ : ∃ r, k % 1000 = r := ⟨_, rfl⟩
    rw [hr] at r1 hT1 hx hy t1
    clear hA hB hD hM ht
    refine EV_post rfl Tryz.func22 rfl (by simp [Tryz.ntmps22]) (by kernel_rfl) (by kernel_rfl) ?_
    simp (maxSteps := 4000000) [List.getElem?_cons_zero, List.getElem?_cons_succ, hI, r1, d1, w1, hT1]
    refine Post_loop (I := fun p : Nat × List UInt8 => ⟨[(1, .lp 1 0), (4, .str p.2), (5, .int .i64 p.1)], [(1, [.int .i64 h, .int .i64 l, .int .i64 k, .int .i64 w])], σ⟩)
      (Pr := fun p => (p.1 = q ∧ p.2 = threeN r ∧ ¬ q = 0) ∨ (p.1 = 0 ∧ p.2 = M)) (μ := fun p => p.1) (a := (q, threeN r)) (by simp) (by
        by_cases e : q = 0
        · exact .inr ⟨e, hx e⟩
        · exact .inl ⟨rfl, rfl, e⟩) ?_
    rintro ⟨p, s⟩ (⟨hp, hs, hq0⟩ | ⟨hp, hs⟩)
    · simp only at hp hs
      subst hp hs
      have g0 : 0 < p := by omega
      have r2 : (p : Int).tmod 1000 = (p : Int) := by rw [Int.tmod_eq_emod_of_nonneg (by omega)]; omega
      have d2 : (p : Int).tdiv 1000 = 0 := by rw [Int.tdiv_eq_ediv_of_nonneg (by omega)]; omega
      have w2 : IntKind.i64.wrap 0 = 0 := wrap64 (by omega)
      have t2 := three_len hkd
      have hT3 := hT2 p hkd
      have hy' := hy (by omega)
      obtain ⟨X, hX⟩ : ∃ X, threeN p = X := ⟨_, rfl⟩
      obtain ⟨Y, hY⟩ : ∃ Y, threeN r = Y := ⟨_, rfl⟩
      rw [hX] at t2 hT3 hy'
      rw [hY] at t1 hy' ⊢
      simp (maxSteps := 4000000) [List.getElem?_cons_zero, List.getElem?_cons_succ, g0, r2, d2, w2, hT3]
      repeat (rw [need_of]; rotate_left; (· (try unfold most); omega); simp (maxSteps := 4000000) [List.getElem?_cons_zero, List.getElem?_cons_succ, g0, r2, d2, w2, hT3])
      exact ⟨0, M, .inr ⟨rfl, rfl⟩, by omega, by rw [← hy']; simp⟩
    · simp only at hp hs
      subst hp hs
      by_cases hw : w = pw
      · have hww : ((w : Int) = (pw : Int)) := hcast.2 hw
        rw [if_pos hw]
        simp (maxSteps := 4000000) [List.getElem?_cons_zero, List.getElem?_cons_succ, -regionA_true]
        refine Post_bndR ⟨[(1, .lp 1 0), (4, .str (tileB ++ [47] ++ A ++ [47] ++ B ++ [47] ++ s)), (5, .int .i64 0)], [(1, [.int .i64 h, .int .i64 l, .int .i64 k, .int .i64 w])], σ⟩ ?_ ?_
        · simp (maxSteps := 4000000) [List.getElem?_cons_zero, List.getElem?_cons_succ, -List.append_assoc, hIh, hIl, tileB]
          repeat (rw [need_of]; rotate_left; (· (try unfold most); omega); simp (maxSteps := 4000000) [List.getElem?_cons_zero, List.getElem?_cons_succ, -List.append_assoc, hIh, hIl, tileB])
        simp (maxSteps := 4000000) [List.getElem?_cons_zero, List.getElem?_cons_succ, -regionA_true]
        refine Post_bndR ⟨[(1, .lp 1 0), (4, .str (tileB ++ [47] ++ A ++ [47] ++ B ++ [47] ++ s)), (5, .int .i64 0), (44, .bool false)], [(1, [.int .i64 h, .int .i64 l, .int .i64 k, .int .i64 w])], σ⟩ ?_ ?_
        · simp (maxSteps := 4000000) [List.getElem?_cons_zero, List.getElem?_cons_succ, s1, hww]
        simp (maxSteps := 4000000) [List.getElem?_cons_zero, List.getElem?_cons_succ, Tryz.results22]
      · have hww : ¬ ((w : Int) = (pw : Int)) := fun e => hw (hcast.1 e)
        rw [if_neg hw]
        simp (maxSteps := 4000000) [List.getElem?_cons_zero, List.getElem?_cons_succ, -regionA_true]
        refine Post_bndR ⟨[(1, .lp 1 0), (4, .str (tileB ++ [47] ++ A ++ [47] ++ B ++ [47] ++ s)), (5, .int .i64 0)], [(1, [.int .i64 h, .int .i64 l, .int .i64 k, .int .i64 w])], σ⟩ ?_ ?_
        · simp (maxSteps := 4000000) [List.getElem?_cons_zero, List.getElem?_cons_succ, -List.append_assoc, hIh, hIl, tileB]
          repeat (rw [need_of]; rotate_left; (· (try unfold most); omega); simp (maxSteps := 4000000) [List.getElem?_cons_zero, List.getElem?_cons_succ, -List.append_assoc, hIh, hIl, tileB])
        simp (maxSteps := 4000000) [List.getElem?_cons_zero, List.getElem?_cons_succ, -regionA_true]
        refine Post_bndR ⟨[(1, .lp 1 0), (4, .str (tileB ++ [47] ++ A ++ [47] ++ B ++ [47] ++ s)), (5, .int .i64 0), (44, .bool true)], [(1, [.int .i64 h, .int .i64 l, .int .i64 k, .int .i64 w])], σ⟩ ?_ ?_
        · simp (maxSteps := 4000000) [List.getElem?_cons_zero, List.getElem?_cons_succ, s1, hww]
        obtain ⟨Z, hZ⟩ : ∃ Z, tileB ++ [47] ++ A ++ [47] ++ B ++ [47] ++ s = Z := ⟨_, rfl⟩
        have hZl : Z.length ≤ 40 := by rw [← hZ]; simp [tileB]; omega
        rw [hZ]
        simp (maxSteps := 4000000) [List.getElem?_cons_zero, List.getElem?_cons_succ, -List.append_assoc, hIw, Tryz.results22]
        repeat (rw [need_of]; rotate_left; (· (try unfold most); omega); simp (maxSteps := 4000000) [List.getElem?_cons_zero, List.getElem?_cons_succ, -List.append_assoc, hIw, Tryz.results22])
        rw [← hZ]; simp
  · have hQ : pathQ H L N W = ([], 15) := by unfold pathQ; rw [if_neg ht]
    rw [decide_eq_false ht] at hI
    simp only [tileA] at hI ⊢
    refine EV_post rfl Tryz.func22 rfl (by simp [Tryz.ntmps22]) (by kernel_rfl) (by kernel_rfl) ?_
    simp (maxSteps := 4000000) [List.getElem?_cons_zero, List.getElem?_cons_succ, hI, hQ, Tryz.results22]
end Go.Proofs.Tryz.Ai
end
section
/- A tile by its path: the program's side. -/
namespace Go.Proofs.Tryz.Ai
open Go Go.AI Go.Proofs
set_option maxHeartbeats 8000000
set_option maxRecDepth 4000
set_option linter.unusedVariables false

theorem splitK_one (c : UInt8) : ∀ (k : Nat) (s : List UInt8), s.count c = k → Lib.splitK [c] 0 k s = splitB c s := by
  intro k
  induction k with
  | zero => intro s h; rw [splitB_not (List.count_eq_zero.1 h)]; rfl
  | succ k ih =>
    intro s h
    cases hi : ix c s with
    | none => rw [List.count_eq_zero.2 (ix_none.1 hi)] at h; omega
    | some n =>
      obtain ⟨h1, h2, h3, h4⟩ := ix_some hi
      have hidx : Lib.index s [c] = (n : Int) := by
        have := index_pre c [] (s.take n) (s.drop (n + 1)) h3
        simp only [List.append_assoc, List.singleton_append, List.length_take] at this
        rw [← h4] at this; rw [this]; omega
      unfold Lib.splitK
      rw [hidx, splitB_ix hi, if_neg (by simp), Int.toNat_natCast]
      congr 1
      refine ih _ ?_
      have := congrArg (List.count c) h4
      rw [List.count_append, List.count_eq_zero.2 h3, List.count_cons_self, h] at this
      show List.count c (s.drop (n + 1)) = k
      omega
theorem split_one (c : UInt8) (s : List UInt8) : Lib.split s [c] = splitB c s := by
  unfold Lib.split
  rw [Lib.count_one]
  exact splitK_one c _ s rfl
theorem Split_eq (c : UInt8) (s : List UInt8) (hs : s.length ≤ 2 ^ 30) (σ) : ev 56 [.str s, .str [c]] σ = some (.sl (.ex 9 1) ((splitB c s).map .str), σ) := by
  rw [ev_Split]
  simp only [splitT]
  rw [need_of ⟨by omega, by simp⟩, split_one]
theorem Atoi_any (s : List UInt8) (hs : s.length ≤ 2 ^ 30) : ∃ (v : Int) (e : AV), (e = .nili ∨ e = .ifx) ∧ ∀ σ, ev 97 [.str s] σ = some (.tup [.int .i64 v, e], σ) := by
  rcases h : Lib.atoiAll s with v | _ | _
  · exact ⟨v, .nili, .inl rfl, fun σ => by rw [ev_Atoi]; simp only [atoiT]; rw [need_of (by omega), h]⟩
  · exact ⟨0, .ifx, .inr rfl, fun σ => by rw [ev_Atoi]; simp only [atoiT]; rw [need_of (by omega), h]⟩
  · exact ⟨_, .ifx, .inr rfl, fun σ => by rw [ev_Atoi]; simp only [atoiT]; rw [need_of (by omega), h]⟩
theorem Atoi_digs (s : List UInt8) (ha : s.all isD = true) (h0 : s ≠ []) (hl : s.length ≤ 17) (σ) : ev 97 [.str s] σ = some (.tup [.int .i64 (valB s), .nili], σ) := by
  rw [ev_Atoi]
  simp only [atoiT]
  rw [need_of (by omega), digs_atoi s ha h0 hl]
theorem decimal_any (s : List UInt8) (hs : s.length ≤ 2 ^ 30) : ∃ v : Int, ∀ σ, ev 57 [.str s] σ = some (.int .i64 v, σ) := by
  obtain ⟨v, e, he, hA⟩ := Atoi_any s hs
  by_cases h8 : 8 < s.length
  · refine ⟨-1, fun σ => ?_⟩
    refine EV_post rfl Tryz.func57 rfl (by simp [Tryz.ntmps57]) (by kernel_rfl) (by kernel_rfl) ?_
    simp (maxSteps := 4000000) [List.getElem?_cons_zero, List.getElem?_cons_succ, h8, Tryz.results57]
  · rcases he with rfl | rfl
    · refine ⟨v, fun σ => ?_⟩
      refine EV_post rfl Tryz.func57 rfl (by simp [Tryz.ntmps57]) (by kernel_rfl) (by kernel_rfl) ?_
      simp (maxSteps := 4000000) [List.getElem?_cons_zero, List.getElem?_cons_succ, h8, hA, Tryz.results57]
    · refine ⟨-1, fun σ => ?_⟩
      refine EV_post rfl Tryz.func57 rfl (by simp [Tryz.ntmps57]) (by kernel_rfl) (by kernel_rfl) ?_
      simp (maxSteps := 4000000) [List.getElem?_cons_zero, List.getElem?_cons_succ, h8, hA, Tryz.results57]
theorem decimal_digs (s : List UInt8) (ha : s.all isD = true) (h0 : s ≠ []) (hl : s.length ≤ 8) (σ) : ev 57 [.str s] σ = some (.int .i64 (valB s), σ) := by
  have hA := Atoi_digs s ha h0 (by omega)
  have h8 : ¬ 8 < s.length := by omega
  refine EV_post rfl Tryz.func57 rfl (by simp [Tryz.ntmps57]) (by kernel_rfl) (by kernel_rfl) ?_
  simp (maxSteps := 4000000) [List.getElem?_cons_zero, List.getElem?_cons_succ, h8, hA, Tryz.results57]
theorem decimal_dec (n : Nat) (hn : n < 1000) (σ) : ev 57 [.str (Lib.decDigits n)] σ = some (.int .i64 n, σ) := by
  have := decimal_digs (Lib.decDigits n) (dec_all n) (dec_ne n) (by have := dec_len n hn; omega) σ
  rw [dec_val] at this; exact this
abbrev Q4 := Nat × Nat × Nat × Nat
def IsT (s : List UInt8) (p : Q4) : Prop := tileP 1048576 p.1 p.2.1 p.2.2.1 p.2.2.2 ∧ s = pathT p.1 p.2.1 p.2.2.1 p.2.2.2
open Classical in
/-- the tile that is found there -/
noncomputable def parT (s : List UInt8) : Q4 × Int := if h : ∃ p : Q4, IsT s p then (h.choose, 0) else ((0, 0, 0, 0), 15)
theorem parT_yes {s : List UInt8} {p : Q4} (h : IsT s p) : parT s = (p, 0) := by
  have hx : ∃ p : Q4, IsT s p := ⟨p, h⟩
  unfold parT
  rw [dif_pos hx]
  have hc := hx.choose_spec
  have b1 := (tile_bound h.1).2.2.2.1
  have b2 := (tile_bound hc.1).2.2.2.1
  obtain ⟨e1, e2, e3, e4⟩ := path_inj (by omega) (by omega) (h.2.symm.trans hc.2)
  rw [Prod.mk.injEq]
  exact ⟨Prod.ext e1.symm (Prod.ext e2.symm (Prod.ext e3.symm e4.symm)), rfl⟩
theorem parT_no {s : List UInt8} (h : ¬ ∃ p : Q4, IsT s p) : parT s = ((0, 0, 0, 0), 15) := by
  unfold parT
  rw [dif_neg h]
theorem sum_le (l : List (List UInt8)) (M : Nat) (h : ∀ x ∈ l, x.length ≤ M) : (l.map List.length).sum ≤ l.length * M := by
  induction l with
  | nil => simp
  | cons x r ih =>
    have h1 := h x (by simp)
    have h2 := ih fun y hy => h y (by simp [hy])
    rw [List.map_cons, List.sum_cons, List.length_cons, Nat.succ_mul]; omega
theorem Join_eq (l : List (List UInt8)) (h : l.length ≤ 2 ^ 16) (hx : ∀ x ∈ l, x.length ≤ 2 ^ 15) (σ) : ev 59 [.sl .sh (l.map .str), .str []] σ = some (.str (Lib.join l []), σ) := by
  have h1 := sum_le l (2 ^ 15) hx
  have h2 : l.length * 2 ^ 15 ≤ 2 ^ 16 * 2 ^ 15 := Nat.mul_le_mul_right _ h
  rw [ev_Join]
  simp only [joinT, strsOf_map, bnd_some]
  rw [need_of ⟨by omega, by rw [join_flat]; omega⟩]
theorem ReplaceX_eq (s : List UInt8) (h : s.length ≤ 4000000000) (σ) : ev 58 [.str s, .str [120], .str []] σ = some (.str (Lib.replaceAll s [120] []), σ) := by
  rw [ev_ReplaceAll]
  simp only [replaceAllT]
  rw [need_of ⟨h, by simp, by simp⟩]
def tileQ (p : Q4) : AV := tileA p.1 p.2.1 p.2.2.1 p.2.2.2
theorem Cut_path (s m : List UInt8) (hs : s.length ≤ 2 ^ 30) (σ) : ev 55 [.str s, .str m] σ = some (.tup [.str (Lib.cut s m).1, .str (Lib.cut s m).2.1, .bool (Lib.cut s m).2.2], σ) := by
  rw [ev_Cut]
  simp only [cutT]
  rw [need_of (by omega)]
theorem cut_len (s m : List UInt8) : (Lib.cut s m).1.length ≤ s.length ∧ (Lib.cut s m).2.1.length ≤ s.length := by
  unfold Lib.cut
  split
  · exact ⟨by simp only [List.length_take]; omega, by simp only [List.length_drop]; omega⟩
  · exact ⟨Nat.le_refl _, by simp⟩
theorem ParsePath_eq (s : List UInt8) (hs : s.length ≤ 2 ^ 15) (σ) : ev 16 [.str s] σ = some (.tup [tileQ (parT s).1, .int .i64 (parT s).2], σ) := by
  have hC := Cut_path s [46, 112, 47] (by omega)
  by_cases hh : ∃ p : Q4, IsT s p
  · obtain ⟨⟨h, l, k, w⟩, ht, hp⟩ := hh
    simp only at ht hp
    have hR := parT_yes (⟨ht, hp⟩ : IsT s (h, l, k, w))
    rw [hR]
    obtain ⟨b1, b2, b3, b4, b5, b6, b7⟩ := tile_bound ht
    have hPa := Path_eq h l k w
    have hQ : pathQ h l k w = (s, 0) := by unfold pathQ; rw [if_pos ht, hp]; rfl
    rw [hQ] at hPa
    have hSp := Split_eq 47 (bodyT h l k) (by
      have := pathT_len (H := h) (L := l) (N := k) (W := w) b2 b3 (by omega) b6
      unfold pathT at this
      rw [List.length_append] at this; omega)
    rw [body_split (by omega)] at hSp
    rw [hp, path_cut (by omega), ← hp] at hC
    obtain ⟨Y, e1, e2, e3, e4, e5⟩ := number_dig (n := k) (by omega)
    have hD1 := decimal_dec h (by omega)
    have hD2 := decimal_dec l (by omega)
    have hD4 := decimal_dec w (by omega)
    have hD3 := decimal_digs Y e2 e3 (by omega)
    rw [e5] at hD3
    have nl := nP_len k
    have nl2 : (nP k).length ≤ 2 := by unfold nP; split <;> simp
    have hx15 : ∀ x ∈ nP k, x.length ≤ 2 ^ 15 := by
      intro x hx
      have := splitB_le (show x ∈ splitB 47 (nT k) by rw [nP_split (by omega)]; exact hx)
      have := nT_len (n := k) (by omega)
      omega
    have hJ := Join_eq (nP k) (by omega) hx15
    have hJl : (Lib.join (nP k) []).length ≤ 4000000000 := by
      have := sum_le (nP k) (2 ^ 15) hx15
      have h2 : (nP k).length * 2 ^ 15 ≤ 2 * 2 ^ 15 := Nat.mul_le_mul_right _ nl2
      rw [join_flat]; omega
    have hRe := ReplaceX_eq _ hJl
    rw [e1] at hRe
    obtain ⟨J, hJJ⟩ : ∃ J, Lib.join (nP k) [] = J := ⟨_, rfl⟩
    rw [hJJ] at hJ hRe
    have s1 := shl_one h b2
    have m1 : min h 64 = h := by omega
    rw [m1, Int.one_mul] at s1
    have hbt : IntKind.i64.bits = 64 := rfl
    have hn1 : ¬ (h : Int) < 0 := by omega
    have c1 : 1 ≤ h := b1
    have len4 : ¬ ((nP k).length : Int) + 1 + 1 + 1 < 4 := by omega
    obtain ⟨A, hA⟩ : ∃ A, Lib.decDigits h = A := ⟨_, rfl⟩
    obtain ⟨B, hB⟩ : ∃ B, Lib.decDigits l = B := ⟨_, rfl⟩
    obtain ⟨D, hD⟩ : ∃ D, Lib.decDigits w = D := ⟨_, rfl⟩
    obtain ⟨T, hT⟩ : ∃ T, bodyT h l k = T := ⟨_, rfl⟩
    have hTs : w = 2 ^ h → T = s := fun e => by rw [← hT, hp]; unfold pathT; rw [if_pos e, List.append_nil]
    obtain ⟨O, hO⟩ : ∃ O, nP k = O := ⟨_, rfl⟩
    obtain ⟨pw, hpw⟩ : ∃ pw, 2 ^ h = pw := ⟨_, rfl⟩
    rw [hpw] at s1 hTs hC b7
    rw [hA] at hD1 hSp
    rw [hB] at hD2 hSp
    rw [hD] at hD4 hC
    rw [hT] at hSp hC
    rw [hO] at hSp hJ nl len4
    simp only [tileQ]
    simp only [tileA] at hPa ⊢
    clear hx15 nl2 hO hA hB hD hT hJJ e1 e2 e3 e4 e5 hR hQ ht hp
    by_cases hw : w = pw
    · have hTs' := hTs hw
      subst hTs' hw
      rw [if_pos rfl] at hC
      refine EV_post rfl Tryz.func16 rfl (by simp [Tryz.ntmps16]) (by kernel_rfl) (by kernel_rfl) ?_
      simp (maxSteps := 4000000) [List.getElem?_cons_zero, List.getElem?_cons_succ, hC, hSp, len4, hD1, hD2, hJ, hRe, hD3, c1, b2, m1, hbt, hn1, s1, hPa, Tryz.results16]
    · rw [if_neg hw] at hC
      refine EV_post rfl Tryz.func16 rfl (by simp [Tryz.ntmps16]) (by kernel_rfl) (by kernel_rfl) ?_
      simp (maxSteps := 4000000) [List.getElem?_cons_zero, List.getElem?_cons_succ, hC, hSp, len4, hD1, hD2, hJ, hRe, hD3, hD4, c1, b2, m1, hbt, hn1, s1, hPa, Tryz.results16]
  · have hR := parT_no hh
    rw [hR]
    have hcl := cut_len s [46, 112, 47]
    obtain ⟨⟨a, b, c⟩, hcc⟩ : ∃ p, Lib.cut s [46, 112, 47] = p := ⟨_, rfl⟩
    rw [hcc] at hC hcl
    simp only at hC hcl
    have hSp := Split_eq 47 a (by omega)
    have hm1 := fun x (hx : x ∈ splitB 47 a) => splitB_le hx
    have hm2 := splitB_many 47 a
    obtain ⟨L, hL⟩ : ∃ L, splitB 47 a = L := ⟨_, rfl⟩
    rw [hL] at hSp hm1 hm2
    simp only [tileQ]
    simp only [tileA]
    by_cases h4 : L.length < 4
    · refine EV_post rfl Tryz.func16 rfl (by simp [Tryz.ntmps16]) (by kernel_rfl) (by kernel_rfl) ?_
      simp (maxSteps := 4000000) [List.getElem?_cons_zero, List.getElem?_cons_succ, hC, hSp, h4, Tryz.results16]
    · obtain ⟨x1, hx1⟩ : ∃ x, L[1]? = some x := ⟨_, List.getElem?_eq_getElem (by omega)⟩
      obtain ⟨x2, hx2⟩ : ∃ x, L[2]? = some x := ⟨_, List.getElem?_eq_getElem (by omega)⟩
      obtain ⟨v1, hv1⟩ := decimal_any x1 (by have := hm1 x1 (List.mem_of_getElem? hx1); omega)
      obtain ⟨v2, hv2⟩ := decimal_any x2 (by have := hm1 x2 (List.mem_of_getElem? hx2); omega)
      obtain ⟨v4, hv4⟩ := decimal_any b (by omega)
      have hx15 : ∀ x ∈ L.drop 3, x.length ≤ 2 ^ 15 := fun x hx => by have := hm1 x (List.mem_of_mem_drop hx); omega
      have hJ := Join_eq (L.drop 3) (by simp; omega) hx15
      have hJl : (Lib.join (L.drop 3) []).length ≤ 4000000000 := by
        have := sum_le (L.drop 3) (2 ^ 15) hx15
        have h2 : (L.drop 3).length * 2 ^ 15 ≤ (2 ^ 15 + 1) * 2 ^ 15 := Nat.mul_le_mul_right _ (by simp; omega)
        rw [join_flat]; omega
      have hRe := ReplaceX_eq _ hJl
      have hrl : (Lib.replaceAll (Lib.join (L.drop 3) []) [120] []).length ≤ 2 ^ 30 + 2 ^ 15 := by
        rw [replace_x]
        refine Nat.le_trans (List.length_filter_le ..) ?_
        have := sum_le (L.drop 3) (2 ^ 15) hx15
        have h2 : (L.drop 3).length * 2 ^ 15 ≤ (2 ^ 15 + 1) * 2 ^ 15 := Nat.mul_le_mul_right _ (by simp; omega)
        rw [join_flat]; omega
      obtain ⟨J, hJJ⟩ : ∃ J, Lib.join (L.drop 3) [] = J := ⟨_, rfl⟩
      rw [hJJ] at hJ hRe hrl
      obtain ⟨Y, hY⟩ : ∃ Y, Lib.replaceAll J [120] [] = Y := ⟨_, rfl⟩
      rw [hY] at hRe hrl
      obtain ⟨v3, hv3⟩ : ∃ v : Int, ∀ σ, ev 57 [.str Y] σ = some (.int .i64 v, σ) := by
        by_cases hq : Y.length ≤ 2 ^ 30
        · exact decimal_any Y hq
        · refine ⟨-1, fun σ => ?_⟩
          have h8 : 8 < Y.length := by omega
          refine EV_post rfl Tryz.func57 rfl (by simp [Tryz.ntmps57]) (by kernel_rfl) (by kernel_rfl) ?_
          simp (maxSteps := 4000000) [List.getElem?_cons_zero, List.getElem?_cons_succ, h8, Tryz.results57]
      have hdr : List.drop 3 (L.map AV.str) = (L.drop 3).map .str := by rw [List.map_drop]
      have h3l : 3 ≤ L.length := by omega
      obtain ⟨O, hO⟩ : ∃ O, L.drop 3 = O := ⟨_, rfl⟩
      rw [hO] at hdr hJ
      have hall : allCells 1 (L.map AV.str) := fun y hy => by obtain ⟨z, _, rfl⟩ := List.mem_map.1 hy; exact ⟨rfl, fun c hc => by simp [AV.cells] at hc; subst hc; rfl⟩
      have wk : ∃ W : Int, W = (if c = true then v4 else if 1 ≤ v1 ∧ v1 ≤ 8 then ((2 ^ v1.toNat : Nat) : Int) else 0) := ⟨_, rfl⟩
      obtain ⟨W, hW⟩ := wk
      have hPa := Path_eq v1 v2 v3 W
      have hnq : ∃ t e, pathQ v1 v2 v3 W = (t, e) ∧ (e = 15 ∨ (e = 0 ∧ (t == s) = false)) := by
        by_cases ht : tileP 1048576 v1 v2 v3 W
        · refine ⟨_, 0, by unfold pathQ; rw [if_pos ht], .inr ⟨rfl, ?_⟩⟩
          rw [beq_eq_false_iff_ne]
          intro e
          obtain ⟨a1, a2, a3, a4, a5, a6, a7, a8, a9⟩ := ((tileP_num 1048576 v1 v2 v3 W).1 ht).1
          refine hh ⟨(v1.toNat, v2.toNat, v3.toNat, W.toNat), ?_, e.symm⟩
          simp only
          rw [Int.toNat_of_nonneg (by omega), Int.toNat_of_nonneg (by omega), Int.toNat_of_nonneg (by omega), Int.toNat_of_nonneg (by omega)]
          exact ht
        · exact ⟨_, 15, by unfold pathQ; rw [if_neg ht], .inl rfl⟩
      obtain ⟨t, e, hq, he⟩ := hnq
      rw [hq] at hPa
      simp only [tileA] at hPa
      clear hm1 hm2 hJl hrl hJJ hY hx15 hL hcl hcc hh hO hq
      refine EV_post rfl Tryz.func16 rfl (by simp [Tryz.ntmps16]) (by kernel_rfl) (by kernel_rfl) ?_
      by_cases q1 : 1 ≤ v1
      · by_cases q2 : v1 ≤ 8
        · obtain ⟨h, rfl⟩ := Int.eq_ofNat_of_zero_le (show 0 ≤ v1 by omega)
          have s1 := shl_one h (by omega)
          have m1 : min h 64 = h := by omega
          rw [m1, Int.one_mul] at s1
          have hbt : IntKind.i64.bits = 64 := rfl
          have hn1 : ¬ (h : Int) < 0 := by omega
          have q1' : 1 ≤ h := by omega
          have q2' : h ≤ 8 := by omega
          cases c with
          | true =>
            rw [if_pos rfl] at hW
            subst hW
            rcases he with rfl | ⟨rfl, he⟩
            · simp (maxSteps := 4000000) [List.getElem?_cons_zero, List.getElem?_cons_succ, -getElem?_pos, hC, hSp, h4, hx1, hx2, hv1, hv2, h3l, hall, hdr, hJ, hRe, hv3, hv4, q1', q2', m1, hbt, hn1, s1, hPa, Tryz.results16]
            · simp (maxSteps := 4000000) [List.getElem?_cons_zero, List.getElem?_cons_succ, -getElem?_pos, hC, hSp, h4, hx1, hx2, hv1, hv2, h3l, hall, hdr, hJ, hRe, hv3, hv4, q1', q2', m1, hbt, hn1, s1, hPa, he, Tryz.results16]
          | false =>
            rw [if_neg (by simp), if_pos ⟨q1, q2⟩, Int.toNat_natCast] at hW
            subst hW
            obtain ⟨pw, hpw⟩ : ∃ pw, 2 ^ h = pw := ⟨_, rfl⟩
            rw [hpw] at s1 hPa
            rcases he with rfl | ⟨rfl, he⟩
            · simp (maxSteps := 4000000) [List.getElem?_cons_zero, List.getElem?_cons_succ, -getElem?_pos, hC, hSp, h4, hx1, hx2, hv1, hv2, h3l, hall, hdr, hJ, hRe, hv3, hv4, q1', q2', m1, hbt, hn1, s1, hPa, Tryz.results16]
            · simp (maxSteps := 4000000) [List.getElem?_cons_zero, List.getElem?_cons_succ, -getElem?_pos, hC, hSp, h4, hx1, hx2, hv1, hv2, h3l, hall, hdr, hJ, hRe, hv3, hv4, q1', q2', m1, hbt, hn1, s1, hPa, he, Tryz.results16]
        · cases c with
          | true =>
            rw [if_pos rfl] at hW
            subst hW
            rcases he with rfl | ⟨rfl, he⟩
            · simp (maxSteps := 4000000) [List.getElem?_cons_zero, List.getElem?_cons_succ, -getElem?_pos, hC, hSp, h4, hx1, hx2, hv1, hv2, h3l, hall, hdr, hJ, hRe, hv3, hv4, q1, q2, hPa, Tryz.results16]
            · simp (maxSteps := 4000000) [List.getElem?_cons_zero, List.getElem?_cons_succ, -getElem?_pos, hC, hSp, h4, hx1, hx2, hv1, hv2, h3l, hall, hdr, hJ, hRe, hv3, hv4, q1, q2, hPa, he, Tryz.results16]
          | false =>
            rw [if_neg (by simp), if_neg (fun h => q2 h.2)] at hW
            subst hW
            rcases he with rfl | ⟨rfl, he⟩
            · simp (maxSteps := 4000000) [List.getElem?_cons_zero, List.getElem?_cons_succ, -getElem?_pos, hC, hSp, h4, hx1, hx2, hv1, hv2, h3l, hall, hdr, hJ, hRe, hv3, hv4, q1, q2, hPa, Tryz.results16]
            · simp (maxSteps := 4000000) [List.getElem?_cons_zero, List.getElem?_cons_succ, -getElem?_pos, hC, hSp, h4, hx1, hx2, hv1, hv2, h3l, hall, hdr, hJ, hRe, hv3, hv4, q1, q2, hPa, he, Tryz.results16]
      · cases c with
        | true =>
          rw [if_pos rfl] at hW
          subst hW
          rcases he with rfl | ⟨rfl, he⟩
          · simp (maxSteps := 4000000) [List.getElem?_cons_zero, List.getElem?_cons_succ, -getElem?_pos, hC, hSp, h4, hx1, hx2, hv1, hv2, h3l, hall, hdr, hJ, hRe, hv3, hv4, q1, hPa, Tryz.results16]
          · simp (maxSteps := 4000000) [List.getElem?_cons_zero, List.getElem?_cons_succ, -getElem?_pos, hC, hSp, h4, hx1, hx2, hv1, hv2, h3l, hall, hdr, hJ, hRe, hv3, hv4, q1, hPa, he, Tryz.results16]
        | false =>
          rw [if_neg (by simp), if_neg (fun h => q1 h.1)] at hW
          subst hW
          rcases he with rfl | ⟨rfl, he⟩
          · simp (maxSteps := 4000000) [List.getElem?_cons_zero, List.getElem?_cons_succ, -getElem?_pos, hC, hSp, h4, hx1, hx2, hv1, hv2, h3l, hall, hdr, hJ, hRe, hv3, hv4, q1, hPa, Tryz.results16]
          · simp (maxSteps := 4000000) [List.getElem?_cons_zero, List.getElem?_cons_succ, -getElem?_pos, hC, hSp, h4, hx1, hx2, hv1, hv2, h3l, hall, hdr, hJ, hRe, hv3, hv4, q1, hPa, he, Tryz.results16]
end Go.Proofs.Tryz.Ai
end
section
/- Numbers and pieces: the document's. -/
namespace Go.Proofs.Tryz.Ai
open Go Go.AI Go.Proofs
set_option maxHeartbeats 8000000
set_option maxRecDepth 4000
set_option linter.unusedVariables false

def numV (s : List UInt8) : Int := if s.all isD = true ∧ s ≠ [] ∧ ∀ i, i ≤ s.length → valB (s.take i) ≤ 1048576 then (valB s : Int) else -1
theorem number_eq (s : List UInt8) (hs : s.length ≤ 2 ^ 30) (σ) : ev 66 [.str s] σ = some (.int .i64 (numV s), σ) := by
  refine EV_post rfl Tryz.func66 rfl (by simp [Tryz.ntmps66]) (by kernel_rfl) (by kernel_rfl) ?_
  simp (maxSteps := 4000000) [List.getElem?_cons_zero, List.getElem?_cons_succ, ]
  refine Post_loop (I := fun i : Nat => ⟨[(0, .str s), (3, .int .i64 (valB (s.take i))), (4, .int .i64 i)], [], σ⟩)
    (Pr := fun i => i ≤ s.length ∧ (s.take i).all isD = true ∧ ∀ j, j ≤ i → valB (s.take j) ≤ 1048576) (μ := fun i => s.length - i) (a := 0) (by simp [valB]) (by simp [valB]) ?_
  rintro i ⟨hi, ha, hb⟩
  by_cases hc : i < s.length
  · obtain ⟨c, hx⟩ : ∃ c, s[i]? = some c := ⟨_, List.getElem?_eq_getElem hc⟩
    have htk : s.take (i + 1) = s.take i ++ [c] := by rw [List.take_add_one, hx]; rfl
    have bad : isD c = false → numV s = -1 := by
      intro h
      unfold numV
      rw [if_neg]
      rintro ⟨h1, _⟩
      have := List.all_eq_true.1 h1 c (List.mem_of_getElem? hx)
      rw [h] at this; cases this
    by_cases z1 : c.toNat < 48
    · have := bad (by unfold isD; rw [decide_eq_false]; omega)
      simp (maxSteps := 4000000) [List.getElem?_cons_zero, List.getElem?_cons_succ, -getElem?_pos, hc, hx, z1, this, Tryz.results66]
    · by_cases z2 : 57 < c.toNat
      · have := bad (by unfold isD; rw [decide_eq_false]; omega)
        simp (maxSteps := 4000000) [List.getElem?_cons_zero, List.getElem?_cons_succ, -getElem?_pos, hc, hx, z1, z2, this, Tryz.results66]
      · have hd : isD c = true := by unfold isD; rw [decide_eq_true]; omega
        have hv := valB_snoc (s.take i) c
        rw [← htk] at hv
        have hbi := hb i (Nat.le_refl _)
        have w1 : IntKind.u8.wrap ((c.toNat : Int) - 48) = ((c.toNat - 48 : Nat) : Int) := by rw [wrapU8 (by omega)]; omega
        have hcx : c.toNat - 48 ≤ 9 := by omega
        obtain ⟨x, hxx⟩ : ∃ x, c.toNat - 48 = x := ⟨_, rfl⟩
        rw [hxx] at w1 hv hcx
        obtain ⟨V, hV⟩ : ∃ V, valB (s.take i) = V := ⟨_, rfl⟩
        rw [hV] at hv hbi ⊢
        obtain ⟨V', hV'⟩ : ∃ V', valB (s.take (i + 1)) = V' := ⟨_, rfl⟩
        rw [hV'] at hv
        have w4 : IntKind.i64.wrap (x : Int) = x := wrap64 (by omega)
        have w5 : IntKind.i64.wrap (10 * (V : Int)) = 10 * (V : Int) := wrap64 (by omega)
        have w7 : IntKind.i64.wrap (10 * (V : Int) + x) = (V' : Int) := by rw [wrap64 (by omega)]; omega
        have w6 : IntKind.i64.wrap ((i : Int) + 1) = (i : Int) + 1 := wrap64 (by omega)
        by_cases z3 : 1048576 < V'
        · have : numV s = -1 := by
            unfold numV
            rw [if_neg]
            rintro ⟨_, _, h3⟩
            have := h3 (i + 1) (by omega)
            omega
          simp (maxSteps := 4000000) [List.getElem?_cons_zero, List.getElem?_cons_succ, -getElem?_pos, hc, hx, z1, z2, w1, w4, w5, w7, z3, this, Tryz.results66]
        · simp (maxSteps := 4000000) [List.getElem?_cons_zero, List.getElem?_cons_succ, -getElem?_pos, -List.all_eq_true, hc, hx, z1, z2, w1, w4, w5, w7, z3, w6]
          refine ⟨i + 1, ⟨by omega, by rw [htk, List.all_append, ha]; simp [hd], fun j hj => ?_⟩, by omega, by rw [hV'], by simp⟩
          rcases (by omega : j ≤ i ∨ j = i + 1) with q | rfl
          · exact hb j q
          · omega
  · obtain rfl : i = s.length := by omega
    rw [List.take_length] at ha
    by_cases e : s = []
    · subst e
      have : numV [] = -1 := rfl
      simp (maxSteps := 4000000) [List.getElem?_cons_zero, List.getElem?_cons_succ, this, Tryz.results66]
    · have e' : s.isEmpty = false := by cases s with | nil => exact absurd rfl e | cons a b => rfl
      have : numV s = valB s := by unfold numV; rw [if_pos ⟨ha, e, hb⟩]
      simp (maxSteps := 4000000) [List.getElem?_cons_zero, List.getElem?_cons_succ, hc, e', this, Tryz.results66]
theorem numV_le (s : List UInt8) : -1 ≤ numV s ∧ numV s ≤ 1048576 := by
  unfold numV
  split
  · rename_i h
    have := h.2.2 s.length (Nat.le_refl _)
    rw [List.take_length] at this; omega
  · omega
theorem numV_digs {s : List UInt8} (h1 : s.all isD = true) (h2 : s ≠ []) (h3 : valB s ≤ 1048576) : numV s = valB s := by
  have key : ∀ i, i ≤ s.length → valB (s.take i) ≤ 1048576 := by
    intro i hi
    have := valB_app (s.take i) (s.drop i)
    rw [List.take_append_drop] at this
    have hp : 0 < 10 ^ (s.drop i).length := Nat.pow_pos (by omega)
    have := Nat.le_mul_of_pos_right (valB (s.take i)) hp
    omega
  unfold numV
  rw [if_pos ⟨h1, h2, key⟩]
/-- pieces in a box -/
structure BoxS (σ S : List (List AV)) (b n : Nat) (l : List (List UInt8)) : Prop where
  get : S[b]? = some (l.map .str)
  len : l.length = n
  take : S.take σ.length = σ
  le : σ.length ≤ b
theorem BoxS.lt {σ S : List (List AV)} {b n : Nat} {l : List (List UInt8)} (h : BoxS σ S b n l) : b < S.length := (List.getElem?_eq_some_iff.1 h.get).1
theorem BoxS.set {σ S : List (List AV)} {b n : Nat} {l : List (List UInt8)} (h : BoxS σ S b n l) (l' : List (List UInt8)) (hl : l'.length = n) : BoxS σ (S.set b (l'.map .str)) b n l' :=
  ⟨by rw [List.getElem?_set, if_pos rfl, if_pos h.lt], hl, by rw [List.take_set_of_le h.le]; exact h.take, h.le⟩
theorem BoxS.low {σ S : List (List AV)} {b n : Nat} {l : List (List UInt8)} (h : BoxS σ S b n l) : lowS σ S := fun k hk => .inl (by
  have := congrArg (fun l : List (List AV) => l[k]?) h.take
  simp only [List.getElem?_take, if_pos hk] at this
  exact this)
theorem CutM_eq (s : List UInt8) (hl : s.length ≤ 2 ^ 30) (c : UInt8) (σ : List (List AV)) : ∃ b S, ev (100000 + 65) [.str s, .int .u8 c.toNat] σ = some (.ms 9 1 b 0 (splitB c s).length, S) ∧ BoxS σ S b (splitB c s).length (splitB c s) := by
  suffices hx : ∃ r : AV × List (List AV), ev (100000 + 65) [.str s, .int .u8 c.toNat] σ = some r ∧ ∃ b S, r = (.ms 9 1 b 0 (splitB c s).length, S) ∧ BoxS σ S b (splitB c s).length (splitB c s) by
    obtain ⟨r, h1, b, S, rfl, h2⟩ := hx
    exact ⟨b, S, h1, h2⟩
  refine EV_postE rfl Tryz.func65 rfl (by simp [Tryz.ntmps65]) (by kernel_rfl) (by kernel_rfl) ?_
  simp (maxSteps := 4000000) [List.getElem?_cons_zero, List.getElem?_cons_succ, ]
  refine Post_loop (I := fun p : AV × List (List AV) × Nat × Nat => ⟨[(0, .str s), (1, .int .u8 c.toNat), (5, p.1), (6, .int .i64 p.2.2.1), (7, .int .i64 p.2.2.2)], [], p.2.1⟩)
    (Pr := fun p => ∃ l : List (List UInt8), ((p.1 = .sl (.ex 9 1) [] ∧ p.2.1 = σ ∧ l = []) ∨ (∃ b, p.1 = .ms 9 1 b 0 l.length ∧ BoxS σ p.2.1 b l.length l ∧ 0 < l.length)) ∧
      ((p.2.2.2 ≤ s.length ∧ p.2.2.1 ≤ p.2.2.2 ∧ c ∉ (s.take p.2.2.2).drop p.2.2.1 ∧ l ++ splitB c (s.drop p.2.2.1) = splitB c s) ∨ (p.2.2.2 = s.length + 1 ∧ l = splitB c s))) (μ := fun p => s.length + 1 - p.2.2.2) (a := (.sl (.ex 9 1) [], σ, 0, 0)) (by simp) ⟨[], .inl ⟨rfl, rfl, rfl⟩, .inl (by simp)⟩ ?_
  rintro ⟨v, S, f, i⟩ ⟨l, hv, h⟩
  simp only at hv h ⊢
  rcases h with ⟨hi, hf, hn, he⟩ | ⟨hi, he⟩
  · have hlen : l.length + 1 ≤ 2 ^ 31 := by
      have h1 := congrArg List.length he
      have h2 := splitB_many c s
      have h3 := splitB_ne c (s.drop f)
      have h4 : (splitB c (s.drop f)).length ≠ 0 := fun e => h3 (List.length_eq_zero_iff.1 e)
      simp only [List.length_append] at h1
      omega
    have e0 : IntKind.i64.wrap ((i : Int) + 1) = (i : Int) + 1 := wrap64 (by omega)
    have hm1 : (1 : Nat) ≤ most := by unfold most; omega
    have hm2 : l.length + 1 ≤ most := by unfold most; omega
    by_cases hc : i < s.length
    · obtain ⟨x, hx⟩ : ∃ x, s[i]? = some x := ⟨_, List.getElem?_eq_getElem hc⟩
      have hcx : s[i] = x := (List.getElem?_eq_some_iff.1 hx).2
      have hne : ¬ i = s.length := by omega
      by_cases d : x = c
      · have hs : s.drop f = (s.take i).drop f ++ c :: s.drop (i + 1) := by
          have h1 : s = s.take i ++ c :: s.drop (i + 1) := by
            rw [← d, ← hcx, ← List.drop_eq_getElem_cons hc, List.take_append_drop]
          conv => lhs; rw [h1]
          rw [List.drop_append_of_le_length (by simp; omega)]
        rw [hs, splitB_app hn] at he
        obtain ⟨X, hX⟩ : ∃ X, (s.take i).drop f = X := ⟨_, rfl⟩
        rw [hX] at he
        have pr' : (i + 1 ≤ s.length ∧ i + 1 ≤ i + 1 ∧ c ∉ (s.take (i + 1)).drop (i + 1) ∧ (l ++ [X]) ++ splitB c (s.drop (i + 1)) = splitB c s) := by
          refine ⟨by omega, Nat.le_refl _, ?_, by rw [List.append_assoc]; exact he⟩
          rw [List.drop_of_length_le (by simp; omega)]; simp
        subst d
        rcases hv with ⟨rfl, rfl, rfl⟩ | ⟨b, rfl, hB, hpos⟩
        · simp (maxSteps := 4000000) [List.getElem?_cons_zero, List.getElem?_cons_succ, -getElem?_pos, -Prod.exists, hi, hne, hx, hf, hX, e0, hm1]
          exact ⟨(.ms 9 1 S.length 0 1, S ++ [[.str X]], i + 1, i + 1), ⟨[X], .inr ⟨S.length, rfl, ⟨by simp, rfl, by simp, Nat.le_refl _⟩, by simp⟩, .inl pr'⟩, by simp; omega, by simp⟩
        · have hg := hB.get
          simp (maxSteps := 4000000) [List.getElem?_cons_zero, List.getElem?_cons_succ, -getElem?_pos, -Prod.exists, hi, hne, hx, hf, hX, e0, hm2, hg, hpos]
          exact ⟨(.ms 9 1 S.length 0 (l.length + 1), S.set b [] ++ [(l.map .str) ++ [.str X]], i + 1, i + 1), ⟨l ++ [X], .inr ⟨S.length, by simp, ⟨by simp, by simp, by rw [List.take_append_of_le_length (by simp; have := hB.lt; have := hB.le; omega), List.take_set_of_le hB.le]; exact hB.take, by have := hB.lt; have := hB.le; omega⟩, by simp⟩, .inl pr'⟩, by simp; omega, by simp⟩
      · simp (maxSteps := 4000000) [List.getElem?_cons_zero, List.getElem?_cons_succ, -getElem?_pos, -Prod.exists, hi, hne, hx, d, e0]
        refine ⟨(v, S, f, i + 1), ⟨l, hv, .inl ⟨by simp; omega, by simp; omega, ?_, he⟩⟩, by simp; omega, by simp⟩
        simp only
        rw [List.take_succ_eq_append_getElem hc, hcx]
        intro h
        rcases List.mem_append.1 (List.mem_of_mem_drop h) with q | q
        · rw [List.drop_append] at h
          rcases List.mem_append.1 h with h | h
          · exact hn h
          · have := List.mem_of_mem_drop h; simp at this; exact d this.symm
        · simp at q; exact d q.symm
    · have hi' : i = s.length := by omega
      subst hi'
      rw [List.take_length] at hn
      rw [splitB_not hn] at he
      obtain ⟨X, hX⟩ : ∃ X, s.drop f = X := ⟨_, rfl⟩
      rw [hX] at he
      rcases hv with ⟨rfl, rfl, rfl⟩ | ⟨b, rfl, hB, hpos⟩
      · simp (maxSteps := 4000000) [List.getElem?_cons_zero, List.getElem?_cons_succ, -getElem?_pos, -Prod.exists, hf, hX, e0, hm1]
        exact ⟨(.ms 9 1 S.length 0 1, S ++ [[.str X]], s.length + 1, s.length + 1), ⟨[X], .inr ⟨S.length, rfl, ⟨by simp, rfl, by simp, Nat.le_refl _⟩, by simp⟩, .inr ⟨rfl, he⟩⟩, by simp, by simp⟩
      · have hg := hB.get
        simp (maxSteps := 4000000) [List.getElem?_cons_zero, List.getElem?_cons_succ, -getElem?_pos, -Prod.exists, hf, hX, e0, hm2, hg, hpos]
        exact ⟨(.ms 9 1 S.length 0 (l.length + 1), S.set b [] ++ [(l.map .str) ++ [.str X]], s.length + 1, s.length + 1), ⟨l ++ [X], .inr ⟨S.length, by simp, ⟨by simp, by simp, by rw [List.take_append_of_le_length (by simp; have := hB.lt; have := hB.le; omega), List.take_set_of_le hB.le]; exact hB.take, by have := hB.lt; have := hB.le; omega⟩, by simp⟩, .inr ⟨rfl, he⟩⟩, by simp, by simp⟩
  · subst hi
    have hz : ¬ (s.length : Int) + 1 ≤ s.length := by omega
    have hne := splitB_ne c s
    rcases hv with ⟨rfl, rfl, rfl⟩ | ⟨b, rfl, hB, hpos⟩
    · exact absurd he.symm hne
    · subst he
      simp (maxSteps := 4000000) [List.getElem?_cons_zero, List.getElem?_cons_succ, hz, Tryz.results65]
      exact ⟨_, _, ⟨rfl, rfl⟩, b, _, ⟨rfl, rfl⟩, hB⟩
end Go.Proofs.Tryz.Ai
end
section
/- A tile by its path: the document's side. -/
namespace Go.Proofs.Tryz.Ai
open Go Go.AI Go.Proofs
set_option maxHeartbeats 8000000
set_option maxRecDepth 4000
set_option linter.unusedVariables false

theorem suffix_drop {a b : List UInt8} (h : b.length ≤ a.length) : (a.drop (a.length - b.length) == b) = decide (b <:+ a) := by
  rw [Bool.eq_iff_iff, beq_iff_eq, decide_eq_true_iff, List.suffix_iff_eq_drop]
  exact ⟨fun h => h.symm, fun h => h.symm⟩
theorem Ends_eq (a b : List UInt8) (ha : a.length ≤ 2 ^ 40) (hb : b.length ≤ 2 ^ 40) (σ) : ev 67 [.str a, .str b] σ = some (.bool (decide (b <:+ a)), σ) := by
  refine EV_post rfl Tryz.func67 rfl (by simp [Tryz.ntmps67]) (by kernel_rfl) (by kernel_rfl) ?_
  by_cases hc : b.length ≤ a.length
  · obtain ⟨k, hk⟩ : ∃ k, a.length - b.length = k := ⟨_, rfl⟩
    have c1 : (b.length : Int) ≤ a.length := by omega
    have w1 : IntKind.i64.wrap ((a.length : Int) - b.length) = (k : Int) := by rw [wrap64 (by omega)]; omega
    have c2 : k ≤ a.length := by omega
    have e := suffix_drop hc
    rw [hk] at e
    simp (maxSteps := 4000000) [List.getElem?_cons_zero, List.getElem?_cons_succ, c1, hc, w1, c2, e, Tryz.results67]
  · have c1 : ¬ (b.length : Int) ≤ a.length := by omega
    have e : ¬ b <:+ a := fun h => hc h.length_le
    simp (maxSteps := 4000000) [List.getElem?_cons_zero, List.getElem?_cons_succ, c1, hc, e, Tryz.results67]
/-- a part of the number -/
def partP (last : Bool) (x : List UInt8) : List UInt8 := if last = false ∧ x ≠ [] then x.drop 1 else x
def stepP (last : Bool) (x : List UInt8) (N : Int) : Option Int := if (partP last x).length ≠ 3 ∨ numV (partP last x) < 0 ∨ 1048576 < N then none else some (1000 * N + numV (partP last x))
def runP : List (List UInt8) → Int → Option Int
  | [], N => some N
  | x :: r, N => (stepP r.isEmpty x N).bind (runP r)
theorem runP_cons (x : List UInt8) (r : List (List UInt8)) (N : Int) : runP (x :: r) N = (stepP r.isEmpty x N).bind (runP r) := rfl
def pE (L : List (List UInt8)) : Bool := decide ([46, 112] <:+ L.getD (L.length - 2) [])
def pL (L : List (List UInt8)) : List (List UInt8) := if pE L then (L.set (L.length - 2) ((L.getD (L.length - 2) []).take ((L.getD (L.length - 2) []).length - 2))).take (L.length - 1) else L
def pW (L : List (List UInt8)) : Int := if pE L then numV (L.getD (L.length - 1) []) else ((2 ^ (numV (L.getD 1 [])).toNat : Nat) : Int)
/-- the tile that the pieces tell -/
def rparP (s : List UInt8) (L : List (List UInt8)) : Option (Int × Int × Int × Int) :=
  if L.length < 4 ∨ L.getD 0 [] ≠ tileB ∨ 8 < L.length then none else
  if numV (L.getD 1 []) < 1 ∨ 8 < numV (L.getD 1 []) then none else
  match runP ((pL L).drop 3) 0 with
  | none => none
  | some N => if pathQ (numV (L.getD 1 [])) (numV (L.getD 2 [])) N (pW L) = (s, 0) then some (numV (L.getD 1 []), numV (L.getD 2 []), N, pW L) else none
def rparA (s : List UInt8) (L : List (List UInt8)) : AV := match rparP s L with
  | none => .tup [tileA 0 0 0 0, .int .i64 15]
  | some t => .tup [tileA t.1 t.2.1 t.2.2.1 t.2.2.2, .int .i64 0]
/-- what goes round -/
structure PSt (σ S : List (List AV)) (b n e i : Nat) (N : Int) (M : List (List UInt8)) (R : Option Int) : Prop where
  box : BoxS σ S b n M
  le : 3 ≤ i ∧ i ≤ e ∧ e ≤ 8 ∧ e ≤ n
  num : 0 ≤ N ∧ N ≤ 2 ^ 31
  run : runP ((M.take e).drop i) N = R
theorem rParsePath_eq (s : List UInt8) (hs : s.length ≤ 2 ^ 15) (σ : List (List AV)) : ev 23 [.str s] σ = some (rparA s (splitB 47 s), σ) := by
  obtain ⟨b, S0, hC0, hB⟩ := CutM_eq s (by omega) 47 σ
  have hC : ev (100000 + 65) [.str s, .int .u8 47] σ = some (.ms 9 1 b 0 (splitB 47 s).length, S0) := hC0
  clear hC0
  have hm1 := fun x (hx : x ∈ splitB 47 s) => splitB_le hx
  obtain ⟨L, hL⟩ : ∃ L, splitB 47 s = L := ⟨_, rfl⟩
  rw [hL] at hC hB hm1 ⊢
  have hlow := hB.low
  have htk := hB.take
  have hg := hB.get
  have gd : ∀ i x, L[i]? = some x → L.getD i [] = x := fun i x h => by rw [List.getD_eq_getElem?_getD, h]; rfl
  obtain ⟨n, hn⟩ : ∃ n, L.length = n := ⟨_, rfl⟩
  rw [hn] at hC hB
  have hpw : L.length ≤ 2 ^ 16 := by
    have := splitB_many 47 s
    rw [hL] at this; omega
  by_cases h4 : n < 4
  · have hR : rparA s L = .tup [tileA 0 0 0 0, .int .i64 15] := by unfold rparA rparP; rw [hn, if_pos (.inl h4)]
    rw [hR]
    simp only [tileA]
    refine EV_post rfl Tryz.func23 rfl (by simp [Tryz.ntmps23]) (by kernel_rfl) (by kernel_rfl) ?_
    simp (maxSteps := 4000000) [List.getElem?_cons_zero, List.getElem?_cons_succ, hC, h4, need_of hlow, htk, Tryz.results23]
  · have hn0 : 0 < n := by omega
    obtain ⟨x0, hx0⟩ : ∃ x, L[0]? = some x := ⟨_, List.getElem?_eq_getElem (by omega)⟩
    by_cases ht : x0 = tileB
    · by_cases h8 : 8 < n
      · have hR : rparA s L = .tup [tileA 0 0 0 0, .int .i64 15] := by unfold rparA rparP; rw [hn, if_pos (.inr (.inr h8))]
        have ht' : (x0 == [116, 105, 108, 101]) = true := by rw [ht]; rfl
        rw [hR]
        simp only [tileA]
        refine EV_post rfl Tryz.func23 rfl (by simp [Tryz.ntmps23]) (by kernel_rfl) (by kernel_rfl) ?_
        simp (maxSteps := 4000000) [List.getElem?_cons_zero, List.getElem?_cons_succ, -getElem?_pos, hC, h4, hn0, hg, hx0, ht', h8, need_of hlow, htk, Tryz.results23]
      · have ht' : (x0 == [116, 105, 108, 101]) = true := by rw [ht]; rfl
        have hn0 : 0 < n := by omega
        have hn1' : 1 < n := by omega
        have hn2' : 2 < n := by omega
        obtain ⟨x1, hx1⟩ : ∃ x, L[1]? = some x := ⟨_, List.getElem?_eq_getElem (by omega)⟩
        obtain ⟨x2, hx2⟩ : ∃ x, L[2]? = some x := ⟨_, List.getElem?_eq_getElem (by omega)⟩
        have n1 := number_eq x1 (by have := hm1 x1 (List.mem_of_getElem? hx1); omega)
        have n2 := number_eq x2 (by have := hm1 x2 (List.mem_of_getElem? hx2); omega)
        have hR0 : rparP s L = if numV x1 < 1 ∨ 8 < numV x1 then none else
            match runP ((pL L).drop 3) 0 with
            | none => none
            | some N => if pathQ (numV x1) (numV x2) N (pW L) = (s, 0) then some (numV x1, numV x2, N, pW L) else none := by
          unfold rparP
          rw [hn, gd 0 x0 hx0, gd 1 x1 hx1, gd 2 x2 hx2, if_neg (by rintro (q | q | q); exact h4 q; exact q ht; exact h8 q)]
        have hpW0 : pW L = if pE L then numV (L.getD (n - 1) []) else ((2 ^ (numV x1).toNat : Nat) : Int) := by unfold pW; rw [gd 1 x1 hx1, hn]
        have hv1 := numV_le x1
        have hv2 := numV_le x2
        obtain ⟨v1, hvv1⟩ : ∃ v, numV x1 = v := ⟨_, rfl⟩
        obtain ⟨v2, hvv2⟩ : ∃ v, numV x2 = v := ⟨_, rfl⟩
        rw [hvv1] at n1 hR0 hpW0 hv1
        rw [hvv2] at n2 hR0 hv2
        by_cases q1 : v1 < 1
        · have hR : rparA s L = .tup [tileA 0 0 0 0, .int .i64 15] := by unfold rparA; rw [hR0, if_pos (.inl q1)]
          rw [hR]
          simp only [tileA]
          refine EV_post rfl Tryz.func23 rfl (by simp [Tryz.ntmps23]) (by kernel_rfl) (by kernel_rfl) ?_
          simp (maxSteps := 4000000) [List.getElem?_cons_zero, List.getElem?_cons_succ, -getElem?_pos, hC, h4, hn0, hg, hx0, ht', h8, hn1', hn2', hx1, hx2, n1, n2, q1, need_of hlow, htk, Tryz.results23]
        · by_cases q2 : 8 < v1
          · have hR : rparA s L = .tup [tileA 0 0 0 0, .int .i64 15] := by unfold rparA; rw [hR0, if_pos (.inr q2)]
            rw [hR]
            simp only [tileA]
            refine EV_post rfl Tryz.func23 rfl (by simp [Tryz.ntmps23]) (by kernel_rfl) (by kernel_rfl) ?_
            simp (maxSteps := 4000000) [List.getElem?_cons_zero, List.getElem?_cons_succ, -getElem?_pos, hC, h4, hn0, hg, hx0, ht', h8, hn1', hn2', hx1, hx2, n1, n2, q1, q2, need_of hlow, htk, Tryz.results23]
          · rw [if_neg (by rintro (q | q); exact q1 q; exact q2 q)] at hR0
            obtain ⟨h, rfl⟩ := Int.eq_ofNat_of_zero_le (show 0 ≤ v1 by omega)
            have p1 := Power_eq h (by omega)
            have q1' : ¬ h < 1 := by omega
            have q2' : ¬ 8 < h := by omega
            rw [Int.toNat_natCast] at hpW0
            obtain ⟨y2, hy2⟩ : ∃ x, L[n - 2]? = some x := ⟨_, List.getElem?_eq_getElem (by omega)⟩
            obtain ⟨y1, hy1⟩ : ∃ x, L[n - 1]? = some x := ⟨_, List.getElem?_eq_getElem (by omega)⟩
            have hE := Ends_eq y2 [46, 112] (by have := hm1 y2 (List.mem_of_getElem? hy2); omega) (by simp)
            have hpE : pE L = decide ([46, 112] <:+ y2) := by unfold pE; rw [hn, gd (n - 2) y2 hy2]
            have n3 := number_eq y1 (by have := hm1 y1 (List.mem_of_getElem? hy1); omega)
            have hv3 := numV_le y1
            rw [gd (n - 1) y1 hy1] at hpW0
            obtain ⟨v3, hvv3⟩ : ∃ v, numV y1 = v := ⟨_, rfl⟩
            rw [hvv3] at n3 hpW0 hv3
            have wn2 : IntKind.i64.wrap ((n : Int) - 2) = ((n - 2 : Nat) : Int) := by rw [wrap64 (by omega)]; omega
            have wn1 : IntKind.i64.wrap ((n : Int) - 1) = ((n - 1 : Nat) : Int) := by rw [wrap64 (by omega)]; omega
            have wn12 : IntKind.i64.wrap (((n - 1 : Nat) : Int) - 1) = ((n - 2 : Nat) : Int) := by rw [wrap64 (by omega)]; omega
            have hn2l : n - 2 < n := by omega
            have hn1l : n - 1 < n := by omega
            -- the rounds, and what follows them
            obtain ⟨R, hRR⟩ : ∃ R, runP ((pL L).drop 3) 0 = R := ⟨_, rfl⟩
            rw [hRR] at hR0
            have hRn : R = none → rparA s L = .tup [tileA 0 0 0 0, .int .i64 15] := fun e => by unfold rparA; rw [hR0, e]
            cases hpe : decide ([46, 112] <:+ y2) with
            | true =>
              rw [hpe] at hE hpE
              obtain ⟨E, hEE⟩ : ∃ E, n - 1 = E := ⟨_, rfl⟩
              obtain ⟨W, hW⟩ : ∃ W : Int, v3 = W := ⟨_, rfl⟩
              rw [hpE, if_pos rfl, hW] at hpW0
              have hRs : ∀ N, R = some N → rparA s L = if pathQ h v2 N W = (s, 0) then .tup [tileA h v2 N W, .int .i64 0] else .tup [tileA 0 0 0 0, .int .i64 15] := fun N e => by
                unfold rparA; rw [hR0, e, hpW0]
                by_cases q : pathQ h v2 N W = (s, 0)
                · simp only [if_pos q]
                · simp only [if_neg q]
              have hBM := hB.set (L.set (n - 2) (y2.take (y2.length - 2))) (by simp [hn])
              obtain ⟨M, hM⟩ : ∃ M, L.set (n - 2) (y2.take (y2.length - 2)) = M := ⟨_, rfl⟩
              have hpL : pL L = M.take E := by unfold pL; rw [hpE, if_pos rfl, hn, gd (n - 2) y2 hy2, hM, hEE]
              rw [hM] at hBM
              have hMs : ∀ x ∈ M, x.length ≤ s.length := by
                intro x hx
                rw [← hM] at hx
                rcases List.mem_or_eq_of_mem_set hx with q | q
                · exact hm1 x q
                · rw [q]; have := hm1 y2 (List.mem_of_getElem? hy2); simp only [List.length_take]; omega
              have hset : (L.map AV.str).set (n - 2) (.str (y2.take (y2.length - 2))) = M.map .str := by rw [← hM, List.map_set]
              have hy2l := hm1 y2 (List.mem_of_getElem? hy2)
              have hsuf : 2 ≤ y2.length := by
                have := (of_decide_eq_true hpe).length_le
                simpa using this
              have wy : IntKind.i64.wrap ((y2.length : Int) - 2) = ((y2.length - 2 : Nat) : Int) := by rw [wrap64 (by omega)]; omega
              obtain ⟨S, hS⟩ : ∃ S, S0.set b (M.map .str) = S := ⟨_, rfl⟩
              rw [hS] at hBM
              have hgM := hBM.get
              have hlowM := hBM.low
              have htkM := hBM.take
              have hrun0 : runP ((M.take E).drop 3) 0 = R := by rw [← hpL]; exact hRR
              have hbl := hB.lt
              rw [hEE] at wn1 hy1 hn1l
              have wn12' : IntKind.i64.wrap ((E : Int) - 1) = ((n - 2 : Nat) : Int) := by rw [wrap64 (by omega)]; omega
              obtain ⟨Y, hY⟩ : ∃ Y, y2.take (y2.length - 2) = Y := ⟨_, rfl⟩
              rw [hY] at hset
              have hdl : n - 2 + 1 ≤ L.length := by omega
              have hset' : List.take (n - 2) (L.map AV.str) ++ AV.str Y :: List.drop (n - 2 + 1) (L.map AV.str) = M.map AV.str := by
                rw [← hset, List.set_eq_take_append_cons_drop, if_pos (by simp; omega)]
              obtain ⟨d, hd⟩ : ∃ d, n - 2 = d := ⟨_, rfl⟩
              rw [hd] at wn2 hy2 hn2l hset' hdl wn12'
              obtain ⟨f, hf⟩ : ∃ f, y2.length - 2 = f := ⟨_, rfl⟩
              have hfl : f ≤ y2.length := by omega
              rw [hf] at wy hY
              rw [hW] at n3
              refine EV_post rfl Tryz.func23 rfl (by simp [Tryz.ntmps23]) (by kernel_rfl) (by kernel_rfl) ?_
              simp (maxSteps := 4000000) [List.getElem?_cons_zero, List.getElem?_cons_succ, -getElem?_pos, -regionA_true, hC, h4, hn0, hn1', hn2', hg, hx0, ht', h8]
              refine Post_bndR ⟨[(0, .str s), (2, .lp 2 0), (3, .int .i64 0), (4, .ms 9 1 b 0 n), (5, .lp 5 0)], [(2, [.int .i64 0, .int .i64 0, .int .i64 0, .int .i64 0]), (5, [.int .i64 h, .int .i64 v2, .int .i64 0, .int .i64 0])], S0⟩ ?_ ?_
              · simp (maxSteps := 4000000) [List.getElem?_cons_zero, List.getElem?_cons_succ, -getElem?_pos, hn1', hn2', hg, hx1, hx2, n1, n2]
              simp (maxSteps := 4000000) [List.getElem?_cons_zero, List.getElem?_cons_succ, -getElem?_pos, -regionA_true, q1', q2', p1, wn2, hn2l, hg, hy2, hE, wn1, hn1l, hy1, n3]
              refine Post_bndR ⟨[(0, .str s), (2, .lp 2 0), (3, .int .i64 0), (4, .ms 9 1 b 0 n), (5, .lp 5 0), (6, .int .i64 E)], [(2, [.int .i64 0, .int .i64 0, .int .i64 0, .int .i64 0]), (5, [.int .i64 h, .int .i64 v2, .int .i64 0, .int .i64 W])], S⟩ ?_ ?_
              · simp (maxSteps := 4000000) [List.getElem?_cons_zero, List.getElem?_cons_succ, -getElem?_pos, wn12', hn2l, hg, hy2, wy, hfl, hY, hbl, hset', hdl, hS]
              simp (maxSteps := 4000000) [List.getElem?_cons_zero, List.getElem?_cons_succ, -getElem?_pos]
              refine Post_loop (I := fun p : Nat × Int => ⟨[(0, .str s), (2, .lp 2 0), (4, .ms 9 1 b 0 n), (5, .lp 5 0), (6, .int .i64 E), (7, .int .i64 p.1)], [(2, [.int .i64 0, .int .i64 0, .int .i64 0, .int .i64 0]), (5, [.int .i64 h, .int .i64 v2, .int .i64 p.2, .int .i64 W])], S⟩)
                (Pr := fun p => 3 ≤ p.1 ∧ p.1 ≤ E ∧ 0 ≤ p.2 ∧ p.2 ≤ 2 ^ 31 ∧ runP ((M.take E).drop p.1) p.2 = R) (μ := fun p => E - p.1) (a := (3, 0)) (by simp [hEE]) ⟨by simp, by simp; omega, by simp, by simp, hrun0⟩ ?_
              rintro ⟨i, N⟩ ⟨hi3, hiE, hN0, hN1, hrun⟩
              simp only at hi3 hiE hN0 hN1 hrun ⊢
              have w1 : IntKind.i64.wrap ((i : Int) + 1) = (i : Int) + 1 := wrap64 (by omega)
              have wE : IntKind.i64.wrap ((E : Int) - 1) = ((E - 1 : Nat) : Int) := by rw [wrap64 (by omega)]; omega
              by_cases hc : i < E
              · have hin : i < n := by omega
                obtain ⟨x, hx⟩ : ∃ x, M[i]? = some x := ⟨_, List.getElem?_eq_getElem (by rw [hBM.len]; omega)⟩
                have hxl := hMs x (List.mem_of_getElem? hx)
                have hdr : (M.take E).drop i = x :: (M.take E).drop (i + 1) := by
                  have hlt : i < (M.take E).length := by rw [List.length_take, hBM.len]; omega
                  rw [List.drop_eq_getElem_cons hlt]
                  congr 1
                  have := (List.getElem?_eq_some_iff.1 hx).2
                  rw [List.getElem_take, this]
                have hemp : ((M.take E).drop (i + 1)).isEmpty = decide (i + 1 = E) := by
                  rw [Bool.eq_iff_iff, List.isEmpty_iff_length_eq_zero, List.length_drop, List.length_take, hBM.len, decide_eq_true_iff]
                  omega
                rw [hdr, runP_cons, hemp] at hrun
                -- one part, known
                have part : ∀ z, partP (decide (i + 1 = E)) x = z → (z.length ≠ 3 ∨ numV z < 0 ∨ 1048576 < N → R = none) ∧ (z.length = 3 → ¬ numV z < 0 → ¬ 1048576 < N → runP ((M.take E).drop (i + 1)) (1000 * N + numV z) = R) := by
                  intro z hz
                  unfold stepP at hrun
                  rw [hz] at hrun
                  refine ⟨fun h => ?_, fun h1 h2 h3 => ?_⟩
                  · rw [if_pos h] at hrun; exact hrun.symm
                  · rw [if_neg (by rintro (q | q | q); exact q h1; exact h2 q; exact h3 q)] at hrun; exact hrun
                by_cases hl : i < E - 1
                · by_cases he : x = []
                  · have hz : partP (decide (i + 1 = E)) x = x := by unfold partP; rw [if_neg (by rintro ⟨_, q⟩; exact q he)]
                    have hR := hRn ((part x hz).1 (.inl (by rw [he]; simp)))
                    subst he
                    rw [hR]
                    simp only [tileA]
                    simp (maxSteps := 4000000) [List.getElem?_cons_zero, List.getElem?_cons_succ, -getElem?_pos, hc, hin, hgM, hx, wE, hl, need_of hlowM, htkM, Tryz.results23]
                  · have he' : x.isEmpty = false := by cases x with | nil => exact absurd rfl he | cons a b => rfl
                    have hz : partP (decide (i + 1 = E)) x = x.drop 1 := by unfold partP; rw [if_pos ⟨decide_eq_false (by omega), he⟩]
                    have hx1 : 1 ≤ x.length := by cases x with | nil => exact absurd rfl he | cons a b => simp
                    have htl : List.drop 1 x = x.tail := List.drop_one
                    have hpt := part _ hz
                    obtain ⟨z, hzz⟩ : ∃ z, x.drop 1 = z := ⟨_, rfl⟩
                    have hzz2 : x.tail = z := by rw [← htl]; exact hzz
                    have hzl : z.length ≤ x.length := by rw [← hzz]; simp
                    rw [hzz] at hpt
                    have ne := number_eq z (by omega)
                    have hvz := numV_le z
                    obtain ⟨V, hV⟩ : ∃ V, numV z = V := ⟨_, rfl⟩
                    rw [hV] at ne hpt hvz
                    by_cases z3 : z.length = 3
                    · by_cases zn : V < 0
                      · have hR := hRn (hpt.1 (.inr (.inl zn)))
                        rw [hR]
                        simp only [tileA]
                        simp (maxSteps := 4000000) [List.getElem?_cons_zero, List.getElem?_cons_succ, -getElem?_pos, hc, hin, hgM, hx, wE, he', hx1, hzz, hzz2, hl, z3, ne, zn, need_of hlowM, htkM, Tryz.results23]
                      · by_cases zb : 1048576 < N
                        · have hR := hRn (hpt.1 (.inr (.inr zb)))
                          rw [hR]
                          simp only [tileA]
                          simp (maxSteps := 4000000) [List.getElem?_cons_zero, List.getElem?_cons_succ, -getElem?_pos, hc, hin, hgM, hx, wE, he', hx1, hzz, hzz2, hl, z3, ne, zn, zb, need_of hlowM, htkM, Tryz.results23]
                        · have hgo := hpt.2 z3 zn zb
                          have wa : IntKind.i64.wrap (1000 * N) = 1000 * N := wrap64 (by omega)
                          have wb : IntKind.i64.wrap (1000 * N + V) = 1000 * N + V := wrap64 (by omega)
                          simp (maxSteps := 4000000) [List.getElem?_cons_zero, List.getElem?_cons_succ, -getElem?_pos, -Prod.exists, hc, hin, hgM, hx, wE, he', hx1, hzz, hzz2, hl, z3, ne, zn, zb, wa, wb, w1]
                          exact ⟨(i + 1, 1000 * N + V), ⟨by show 3 ≤ i + 1; omega, by show i + 1 ≤ E; omega, by show 0 ≤ 1000 * N + V; omega, by show 1000 * N + V ≤ 2 ^ 31; omega, hgo⟩, by show E - (i + 1) < E - i; omega, by simp⟩
                    · have hR := hRn (hpt.1 (.inl z3))
                      rw [hR]
                      simp only [tileA]
                      simp (maxSteps := 4000000) [List.getElem?_cons_zero, List.getElem?_cons_succ, -getElem?_pos, hc, hin, hgM, hx, wE, he', hx1, hzz, hzz2, hl, z3, need_of hlowM, htkM, Tryz.results23]
                · have hl' : ¬ i < E - 1 := hl
                  have hz : partP (decide (i + 1 = E)) x = x := by unfold partP; rw [if_neg (by rintro ⟨q, _⟩; rw [decide_eq_false_iff_not] at q; omega)]
                  have hpt := part _ hz
                  have ne := number_eq x (by omega)
                  have hvz := numV_le x
                  obtain ⟨z, hzz⟩ : ∃ z, x = z := ⟨_, rfl⟩
                  obtain ⟨V, hV⟩ : ∃ V, numV x = V := ⟨_, rfl⟩
                  rw [hV] at ne hpt hvz
                  rw [hzz] at hpt ne hx
                  by_cases z3 : z.length = 3
                  · by_cases zn : V < 0
                    · have hR := hRn (hpt.1 (.inr (.inl zn)))
                      rw [hR]
                      simp only [tileA]
                      simp (maxSteps := 4000000) [List.getElem?_cons_zero, List.getElem?_cons_succ, -getElem?_pos, hc, hin, hgM, hx, wE, hl, z3, ne, zn, need_of hlowM, htkM, Tryz.results23]
                    · by_cases zb : 1048576 < N
                      · have hR := hRn (hpt.1 (.inr (.inr zb)))
                        rw [hR]
                        simp only [tileA]
                        simp (maxSteps := 4000000) [List.getElem?_cons_zero, List.getElem?_cons_succ, -getElem?_pos, hc, hin, hgM, hx, wE, hl, z3, ne, zn, zb, need_of hlowM, htkM, Tryz.results23]
                      · have hgo := hpt.2 z3 zn zb
                        have wa : IntKind.i64.wrap (1000 * N) = 1000 * N := wrap64 (by omega)
                        have wb : IntKind.i64.wrap (1000 * N + V) = 1000 * N + V := wrap64 (by omega)
                        simp (maxSteps := 4000000) [List.getElem?_cons_zero, List.getElem?_cons_succ, -getElem?_pos, -Prod.exists, hc, hin, hgM, hx, wE, hl, z3, ne, zn, zb, wa, wb, w1]
                        exact ⟨(i + 1, 1000 * N + V), ⟨by show 3 ≤ i + 1; omega, by show i + 1 ≤ E; omega, by show 0 ≤ 1000 * N + V; omega, by show 1000 * N + V ≤ 2 ^ 31; omega, hgo⟩, by show E - (i + 1) < E - i; omega, by simp⟩
                  · have hR := hRn (hpt.1 (.inl z3))
                    rw [hR]
                    simp only [tileA]
                    simp (maxSteps := 4000000) [List.getElem?_cons_zero, List.getElem?_cons_succ, -getElem?_pos, hc, hin, hgM, hx, wE, hl, z3, need_of hlowM, htkM, Tryz.results23]
              · obtain rfl : i = E := by omega
                have hnil : (M.take i).drop i = [] := List.drop_of_length_le (by rw [List.length_take]; omega)
                rw [hnil] at hrun
                have hR := hRs N hrun.symm
                have hPa := rPath_eq h v2 N W
                simp only [tileA] at hPa
                by_cases hq : pathQ h v2 N W = (s, 0)
                · rw [if_pos hq] at hR
                  rw [hq] at hPa
                  rw [hR]
                  simp only [tileA]
                  simp (maxSteps := 4000000) [List.getElem?_cons_zero, List.getElem?_cons_succ, -getElem?_pos, hPa, need_of hlowM, htkM, Tryz.results23]
                · rw [if_neg hq] at hR
                  rw [hR]
                  simp only [tileA]
                  obtain ⟨⟨pt, pe⟩, hpp⟩ : ∃ p, pathQ h v2 N W = p := ⟨_, rfl⟩
                  rw [hpp] at hPa hq
                  simp only at hPa
                  by_cases hpe : pe = 0
                  · have hne : (pt == s) = false := by rw [beq_eq_false_iff_ne]; rintro rfl; exact hq (by rw [hpe])
                    subst hpe
                    simp (maxSteps := 4000000) [List.getElem?_cons_zero, List.getElem?_cons_succ, -getElem?_pos, hPa, hne, need_of hlowM, htkM, Tryz.results23]
                  · simp (maxSteps := 4000000) [List.getElem?_cons_zero, List.getElem?_cons_succ, -getElem?_pos, hPa, hpe, need_of hlowM, htkM, Tryz.results23]
            | false =>
              rw [hpe] at hE hpE
              obtain ⟨E, hEE⟩ : ∃ E, n = E := ⟨_, rfl⟩
              obtain ⟨W, hW⟩ : ∃ W : Int, ((2 ^ h : Nat) : Int) = W := ⟨_, rfl⟩
              rw [hpE, if_neg (by simp), hW] at hpW0
              have hRs : ∀ N, R = some N → rparA s L = if pathQ h v2 N W = (s, 0) then .tup [tileA h v2 N W, .int .i64 0] else .tup [tileA 0 0 0 0, .int .i64 15] := fun N e => by
                unfold rparA; rw [hR0, e, hpW0]
                by_cases q : pathQ h v2 N W = (s, 0)
                · simp only [if_pos q]
                · simp only [if_neg q]
              obtain ⟨M, hM⟩ : ∃ M, L = M := ⟨_, rfl⟩
              have hpL : pL L = M.take E := by unfold pL; rw [hpE, if_neg (by simp), ← hEE, ← hn, ← hM, List.take_length]
              have hBM := hB
              rw [hM] at hBM
              have hMs : ∀ x ∈ M, x.length ≤ s.length := by rw [← hM]; exact hm1
              obtain ⟨S, hS⟩ : ∃ S, S0 = S := ⟨_, rfl⟩
              rw [hS] at hBM
              have hgM := hBM.get
              have hlowM := hBM.low
              have htkM := hBM.take
              have hrun0 : runP ((M.take E).drop 3) 0 = R := by rw [← hpL]; exact hRR
              obtain ⟨d, hd⟩ : ∃ d, n - 2 = d := ⟨_, rfl⟩
              rw [hd] at wn2 hy2 hn2l
              rw [hW] at p1
              refine EV_post rfl Tryz.func23 rfl (by simp [Tryz.ntmps23]) (by kernel_rfl) (by kernel_rfl) ?_
              simp (maxSteps := 4000000) [List.getElem?_cons_zero, List.getElem?_cons_succ, -getElem?_pos, -regionA_true, hC, h4, hn0, hn1', hn2', hg, hx0, ht', h8]
              refine Post_bndR ⟨[(0, .str s), (2, .lp 2 0), (3, .int .i64 0), (4, .ms 9 1 b 0 n), (5, .lp 5 0)], [(2, [.int .i64 0, .int .i64 0, .int .i64 0, .int .i64 0]), (5, [.int .i64 h, .int .i64 v2, .int .i64 0, .int .i64 0])], S0⟩ ?_ ?_
              · simp (maxSteps := 4000000) [List.getElem?_cons_zero, List.getElem?_cons_succ, -getElem?_pos, hn1', hn2', hg, hx1, hx2, n1, n2]
              simp (maxSteps := 4000000) [List.getElem?_cons_zero, List.getElem?_cons_succ, -getElem?_pos, -regionA_true, q1', q2', p1, wn2, hn2l, hg, hy2, hE]
              rw [hS]
              refine Post_loop (I := fun p : Nat × Int => ⟨[(0, .str s), (2, .lp 2 0), (4, .ms 9 1 b 0 n), (5, .lp 5 0), (6, .int .i64 E), (7, .int .i64 p.1)], [(2, [.int .i64 0, .int .i64 0, .int .i64 0, .int .i64 0]), (5, [.int .i64 h, .int .i64 v2, .int .i64 p.2, .int .i64 W])], S⟩)
                (Pr := fun p => 3 ≤ p.1 ∧ p.1 ≤ E ∧ 0 ≤ p.2 ∧ p.2 ≤ 2 ^ 31 ∧ runP ((M.take E).drop p.1) p.2 = R) (μ := fun p => E - p.1) (a := (3, 0)) (by simp [hEE]) ⟨by simp, by simp; omega, by simp, by simp, hrun0⟩ ?_
              rintro ⟨i, N⟩ ⟨hi3, hiE, hN0, hN1, hrun⟩
              simp only at hi3 hiE hN0 hN1 hrun ⊢
              have w1 : IntKind.i64.wrap ((i : Int) + 1) = (i : Int) + 1 := wrap64 (by omega)
              have wE : IntKind.i64.wrap ((E : Int) - 1) = ((E - 1 : Nat) : Int) := by rw [wrap64 (by omega)]; omega
              by_cases hc : i < E
              · have hin : i < n := by omega
                obtain ⟨x, hx⟩ : ∃ x, M[i]? = some x := ⟨_, List.getElem?_eq_getElem (by rw [hBM.len]; omega)⟩
                have hxl := hMs x (List.mem_of_getElem? hx)
                have hdr : (M.take E).drop i = x :: (M.take E).drop (i + 1) := by
                  have hlt : i < (M.take E).length := by rw [List.length_take, hBM.len]; omega
                  rw [List.drop_eq_getElem_cons hlt]
                  congr 1
                  have := (List.getElem?_eq_some_iff.1 hx).2
                  rw [List.getElem_take, this]
                have hemp : ((M.take E).drop (i + 1)).isEmpty = decide (i + 1 = E) := by
                  rw [Bool.eq_iff_iff, List.isEmpty_iff_length_eq_zero, List.length_drop, List.length_take, hBM.len, decide_eq_true_iff]
                  omega
                rw [hdr, runP_cons, hemp] at hrun
                -- one part, known
                have part : ∀ z, partP (decide (i + 1 = E)) x = z → (z.length ≠ 3 ∨ numV z < 0 ∨ 1048576 < N → R = none) ∧ (z.length = 3 → ¬ numV z < 0 → ¬ 1048576 < N → runP ((M.take E).drop (i + 1)) (1000 * N + numV z) = R) := by
                  intro z hz
                  unfold stepP at hrun
                  rw [hz] at hrun
                  refine ⟨fun h => ?_, fun h1 h2 h3 => ?_⟩
                  · rw [if_pos h] at hrun; exact hrun.symm
                  · rw [if_neg (by rintro (q | q | q); exact q h1; exact h2 q; exact h3 q)] at hrun; exact hrun
                by_cases hl : i < E - 1
                · by_cases he : x = []
                  · have hz : partP (decide (i + 1 = E)) x = x := by unfold partP; rw [if_neg (by rintro ⟨_, q⟩; exact q he)]
                    have hR := hRn ((part x hz).1 (.inl (by rw [he]; simp)))
                    subst he
                    rw [hR]
                    simp only [tileA]
                    simp (maxSteps := 4000000) [List.getElem?_cons_zero, List.getElem?_cons_succ, -getElem?_pos, hc, hin, hgM, hx, wE, hl, need_of hlowM, htkM, Tryz.results23]
                  · have he' : x.isEmpty = false := by cases x with | nil => exact absurd rfl he | cons a b => rfl
                    have hz : partP (decide (i + 1 = E)) x = x.drop 1 := by unfold partP; rw [if_pos ⟨decide_eq_false (by omega), he⟩]
                    have hx1 : 1 ≤ x.length := by cases x with | nil => exact absurd rfl he | cons a b => simp
                    have htl : List.drop 1 x = x.tail := List.drop_one
                    have hpt := part _ hz
                    obtain ⟨z, hzz⟩ : ∃ z, x.drop 1 = z := ⟨_, rfl⟩
                    have hzz2 : x.tail = z := by rw [← htl]; exact hzz
                    have hzl : z.length ≤ x.length := by rw [← hzz]; simp
                    rw [hzz] at hpt
                    have ne := number_eq z (by omega)
                    have hvz := numV_le z
                    obtain ⟨V, hV⟩ : ∃ V, numV z = V := ⟨_, rfl⟩
                    rw [hV] at ne hpt hvz
                    by_cases z3 : z.length = 3
                    · by_cases zn : V < 0
                      · have hR := hRn (hpt.1 (.inr (.inl zn)))
                        rw [hR]
                        simp only [tileA]
                        simp (maxSteps := 4000000) [List.getElem?_cons_zero, List.getElem?_cons_succ, -getElem?_pos, hc, hin, hgM, hx, wE, he', hx1, hzz, hzz2, hl, z3, ne, zn, need_of hlowM, htkM, Tryz.results23]
                      · by_cases zb : 1048576 < N
                        · have hR := hRn (hpt.1 (.inr (.inr zb)))
                          rw [hR]
                          simp only [tileA]
                          simp (maxSteps := 4000000) [List.getElem?_cons_zero, List.getElem?_cons_succ, -getElem?_pos, hc, hin, hgM, hx, wE, he', hx1, hzz, hzz2, hl, z3, ne, zn, zb, need_of hlowM, htkM, Tryz.results23]
                        · have hgo := hpt.2 z3 zn zb
                          have wa : IntKind.i64.wrap (1000 * N) = 1000 * N := wrap64 (by omega)
                          have wb : IntKind.i64.wrap (1000 * N + V) = 1000 * N + V := wrap64 (by omega)
                          simp (maxSteps := 4000000) [List.getElem?_cons_zero, List.getElem?_cons_succ, -getElem?_pos, -Prod.exists, hc, hin, hgM, hx, wE, he', hx1, hzz, hzz2, hl, z3, ne, zn, zb, wa, wb, w1]
                          exact ⟨(i + 1, 1000 * N + V), ⟨by show 3 ≤ i + 1; omega, by show i + 1 ≤ E; omega, by show 0 ≤ 1000 * N + V; omega, by show 1000 * N + V ≤ 2 ^ 31; omega, hgo⟩, by show E - (i + 1) < E - i; omega, by simp⟩
                    · have hR := hRn (hpt.1 (.inl z3))
                      rw [hR]
                      simp only [tileA]
                      simp (maxSteps := 4000000) [List.getElem?_cons_zero, List.getElem?_cons_succ, -getElem?_pos, hc, hin, hgM, hx, wE, he', hx1, hzz, hzz2, hl, z3, need_of hlowM, htkM, Tryz.results23]
                · have hl' : ¬ i < E - 1 := hl
                  have hz : partP (decide (i + 1 = E)) x = x := by unfold partP; rw [if_neg (by rintro ⟨q, _⟩; rw [decide_eq_false_iff_not] at q; omega)]
                  have hpt := part _ hz
                  have ne := number_eq x (by omega)
                  have hvz := numV_le x
                  obtain ⟨z, hzz⟩ : ∃ z, x = z := ⟨_, rfl⟩
                  obtain ⟨V, hV⟩ : ∃ V, numV x = V := ⟨_, rfl⟩
                  rw [hV] at ne hpt hvz
                  rw [hzz] at hpt ne hx
                  by_cases z3 : z.length = 3
                  · by_cases zn : V < 0
                    · have hR := hRn (hpt.1 (.inr (.inl zn)))
                      rw [hR]
                      simp only [tileA]
                      simp (maxSteps := 4000000) [List.getElem?_cons_zero, List.getElem?_cons_succ, -getElem?_pos, hc, hin, hgM, hx, wE, hl, z3, ne, zn, need_of hlowM, htkM, Tryz.results23]
                    · by_cases zb : 1048576 < N
                      · have hR := hRn (hpt.1 (.inr (.inr zb)))
                        rw [hR]
                        simp only [tileA]
                        simp (maxSteps := 4000000) [List.getElem?_cons_zero, List.getElem?_cons_succ, -getElem?_pos, hc, hin, hgM, hx, wE, hl, z3, ne, zn, zb, need_of hlowM, htkM, Tryz.results23]
                      · have hgo := hpt.2 z3 zn zb
                        have wa : IntKind.i64.wrap (1000 * N) = 1000 * N := wrap64 (by omega)
                        have wb : IntKind.i64.wrap (1000 * N + V) = 1000 * N + V := wrap64 (by omega)
                        simp (maxSteps := 4000000) [List.getElem?_cons_zero, List.getElem?_cons_succ, -getElem?_pos, -Prod.exists, hc, hin, hgM, hx, wE, hl, z3, ne, zn, zb, wa, wb, w1]
                        exact ⟨(i + 1, 1000 * N + V), ⟨by show 3 ≤ i + 1; omega, by show i + 1 ≤ E; omega, by show 0 ≤ 1000 * N + V; omega, by show 1000 * N + V ≤ 2 ^ 31; omega, hgo⟩, by show E - (i + 1) < E - i; omega, by simp⟩
                  · have hR := hRn (hpt.1 (.inl z3))
                    rw [hR]
                    simp only [tileA]
                    simp (maxSteps := 4000000) [List.getElem?_cons_zero, List.getElem?_cons_succ, -getElem?_pos, hc, hin, hgM, hx, wE, hl, z3, need_of hlowM, htkM, Tryz.results23]
              · obtain rfl : i = E := by omega
                have hnil : (M.take i).drop i = [] := List.drop_of_length_le (by rw [List.length_take]; omega)
                rw [hnil] at hrun
                have hR := hRs N hrun.symm
                have hPa := rPath_eq h v2 N W
                simp only [tileA] at hPa
                by_cases hq : pathQ h v2 N W = (s, 0)
                · rw [if_pos hq] at hR
                  rw [hq] at hPa
                  rw [hR]
                  simp only [tileA]
                  simp (maxSteps := 4000000) [List.getElem?_cons_zero, List.getElem?_cons_succ, -getElem?_pos, hPa, need_of hlowM, htkM, Tryz.results23]
                · rw [if_neg hq] at hR
                  rw [hR]
                  simp only [tileA]
                  obtain ⟨⟨pt, pe⟩, hpp⟩ : ∃ p, pathQ h v2 N W = p := ⟨_, rfl⟩
                  rw [hpp] at hPa hq
                  simp only at hPa
                  by_cases hpe : pe = 0
                  · have hne : (pt == s) = false := by rw [beq_eq_false_iff_ne]; rintro rfl; exact hq (by rw [hpe])
                    subst hpe
                    simp (maxSteps := 4000000) [List.getElem?_cons_zero, List.getElem?_cons_succ, -getElem?_pos, hPa, hne, need_of hlowM, htkM, Tryz.results23]
                  · simp (maxSteps := 4000000) [List.getElem?_cons_zero, List.getElem?_cons_succ, -getElem?_pos, hPa, hpe, need_of hlowM, htkM, Tryz.results23]
    · have hR : rparA s L = .tup [tileA 0 0 0 0, .int .i64 15] := by unfold rparA rparP; rw [gd 0 x0 hx0, if_pos (.inr (.inl ht))]
      have ht' : (x0 == [116, 105, 108, 101]) = false := by rw [beq_eq_false_iff_ne]; exact ht
      rw [hR]
      simp only [tileA]
      refine EV_post rfl Tryz.func23 rfl (by simp [Tryz.ntmps23]) (by kernel_rfl) (by kernel_rfl) ?_
      simp (maxSteps := 4000000) [List.getElem?_cons_zero, List.getElem?_cons_succ, -getElem?_pos, hC, h4, hn0, hg, hx0, ht', need_of hlow, htk, Tryz.results23]
end Go.Proofs.Tryz.Ai
end
section
/- A tile by its path: both sides tell the same. -/
namespace Go.Proofs.Tryz.Ai
open Go Go.AI Go.Proofs
set_option maxHeartbeats 4000000
set_option maxRecDepth 4000
set_option linter.unusedVariables false

theorem numV_dec {n : Nat} (h : n ≤ 1048576) : numV (Lib.decDigits n) = n := by
  rw [numV_digs (dec_all n) (dec_ne n) (by rw [dec_val]; exact h), dec_val]
theorem three_ne {n : Nat} (h : n < 1000) : threeN n ≠ [] := fun e => by
  have := three_len h
  rw [e] at this; cases this
theorem numV_three {n : Nat} (h : n < 1000) : numV (threeN n) = n := by
  rw [numV_digs (three_dig h) (three_ne h) (by rw [three_val h]; omega), three_val h]
theorem step_some {last : Bool} {x z : List UInt8} {N V : Int} (hz : partP last x = z) (h1 : z.length = 3) (h2 : numV z = V) (h3 : 0 ≤ V) (h4 : N ≤ 1048576) : stepP last x N = some (1000 * N + V) := by
  unfold stepP
  rw [hz, if_neg (by rw [h2]; rintro (q | q | q) <;> omega), h2]
theorem run_nP {k : Nat} (hk : k < 1000000) : runP (nP k) 0 = some (k : Int) := by
  unfold nP
  split
  · rename_i h
    rw [runP_cons, step_some (z := threeN k) (by unfold partP; rw [if_neg (by rintro ⟨q, _⟩; cases q)]) (three_len h) (numV_three h) (by omega) (by omega)]
    show some (1000 * 0 + (k : Int)) = _
    simp
  · have h1 : k / 1000 < 1000 := by omega
    have h2 : k % 1000 < 1000 := by omega
    rw [runP_cons, step_some (z := threeN (k / 1000)) (by unfold partP; rw [if_pos ⟨rfl, by simp⟩]; rfl) (three_len h1) (numV_three h1) (by omega) (by omega)]
    show runP [threeN (k % 1000)] (1000 * 0 + ((k / 1000 : Nat) : Int)) = _
    rw [runP_cons, step_some (z := threeN (k % 1000)) (by unfold partP; rw [if_neg (by rintro ⟨q, _⟩; cases q)]) (three_len h2) (numV_three h2) (by omega) (by omega)]
    show some (1000 * (1000 * 0 + ((k / 1000 : Nat) : Int)) + ((k % 1000 : Nat) : Int)) = _
    congr 1; omega
/-- the pieces of a part's path -/
theorem path_split {h l k w : Nat} (hk : k < 1000000) (hw : ¬ w = 2 ^ h) : splitB 47 (pathT h l k w) = if k < 1000 then [tileB, Lib.decDigits h, Lib.decDigits l, threeN k ++ [46, 112], Lib.decDigits w] else [tileB, Lib.decDigits h, Lib.decDigits l, 120 :: threeN (k / 1000), threeN (k % 1000) ++ [46, 112], Lib.decDigits w] := by
  have e : pathT h l k w = tileB ++ 47 :: (Lib.decDigits h ++ 47 :: (Lib.decDigits l ++ 47 :: (nT k ++ [46, 112] ++ 47 :: Lib.decDigits w))) := by
    unfold pathT bodyT; rw [if_neg hw]; simp
  rw [e, splitB_app (by decide), splitB_app (dig_no (dec_all h) (by decide)), splitB_app (dig_no (dec_all l) (by decide))]
  unfold nT
  have no2 : ∀ x : List UInt8, (47 : UInt8) ∉ x → (47 : UInt8) ∉ x ++ [46, 112] := fun x hx q => by
    rcases List.mem_append.1 q with q | q
    · exact hx q
    · exact absurd q (by decide)
  split
  · rename_i h1
    rw [splitB_app (no2 _ (dig_no (three_dig h1) (by decide))), splitB_not (dig_no (dec_all w) (by decide))]
  · have h1 : k / 1000 < 1000 := by omega
    have h2 : k % 1000 < 1000 := by omega
    have e2 : 120 :: threeN (k / 1000) ++ 47 :: threeN (k % 1000) ++ [46, 112] ++ 47 :: Lib.decDigits w = (120 :: threeN (k / 1000)) ++ 47 :: ((threeN (k % 1000) ++ [46, 112]) ++ 47 :: Lib.decDigits w) := by simp
    rw [e2, splitB_app (x_no _ (three_dig h1) 47 (by decide) (by decide)), splitB_app (no2 _ (dig_no (three_dig h2) (by decide))), splitB_not (dig_no (dec_all w) (by decide))]
theorem no_suf {x : List UInt8} (h : (46 : UInt8) ∉ x) : decide ([46, 112] <:+ x) = false := by
  rw [decide_eq_false_iff_not]
  rintro ⟨t, rfl⟩
  exact h (by simp)
theorem yes_suf (x : List UInt8) : decide ([46, 112] <:+ x ++ [46, 112]) = true := decide_eq_true (List.suffix_append _ _)
theorem cut_suf (x : List UInt8) : (x ++ [46, 112]).take ((x ++ [46, 112]).length - 2) = x := by
  rw [List.length_append]; exact List.take_left' (by simp)
theorem rpar_yes {s : List UInt8} {h l k w : Nat} (ht : tileP 1048576 h l k w) (hs : s = pathT h l k w) : rparP s (splitB 47 s) = some ((h : Int), (l : Int), (k : Int), (w : Int)) := by
  obtain ⟨b1, b2, b3, b4, b5, b6, b7⟩ := tile_bound ht
  have hq : pathQ h l k w = (s, 0) := by unfold pathQ; rw [if_pos ht, hs]; rfl
  have vh := numV_dec (n := h) (by omega)
  have vl := numV_dec (n := l) (by omega)
  have vw := numV_dec (n := w) (by omega)
  have hr := run_nP (k := k) (by omega)
  -- by what the pieces tell
  have fin : ∀ L : List (List UInt8), 4 ≤ L.length → L.length ≤ 8 → L.getD 0 [] = tileB → L.getD 1 [] = Lib.decDigits h → L.getD 2 [] = Lib.decDigits l → (pL L).drop 3 = nP k → pW L = w → rparP s L = some ((h : Int), (l : Int), (k : Int), (w : Int)) := by
    intro L c1 c2 c3 c4 c5 c6 c7
    unfold rparP
    rw [c3, c4, c5, c6, c7, vh, vl, hr, if_neg (by rintro (q | q | q); omega; exact q rfl; omega), if_neg (by omega)]
    simp only
    rw [if_pos hq]
  by_cases hw : w = 2 ^ h
  · have e1 : s = bodyT h l k := by rw [hs]; unfold pathT; rw [if_pos hw, List.append_nil]
    rw [e1, body_split (by omega), ← e1]
    have hpe : pE (tileB :: Lib.decDigits h :: Lib.decDigits l :: nP k) = false := by
      unfold pE nP
      split
      · exact no_suf (dig_no (dec_all l) (by decide))
      · exact no_suf (x_no _ (three_dig (by omega)) 46 (by decide) (by decide))
    refine fin _ (by have := nP_len k; simp only [List.length_cons]; omega) (by unfold nP; split <;> simp) rfl rfl rfl ?_ ?_
    · unfold pL; rw [hpe]; rfl
    · unfold pW; rw [hpe, if_neg (by simp)]
      show ((2 ^ (numV (Lib.decDigits h)).toNat : Nat) : Int) = w
      rw [vh, Int.toNat_natCast, hw]
  · rw [hs, path_split (by omega) hw, ← hs]
    split
    · rename_i h1
      have hpe : pE [tileB, Lib.decDigits h, Lib.decDigits l, threeN k ++ [46, 112], Lib.decDigits w] = true := yes_suf _
      refine fin _ (by simp) (by simp) rfl rfl rfl ?_ ?_
      · unfold pL; rw [hpe, if_pos rfl]
        show [(threeN k ++ [46, 112]).take ((threeN k ++ [46, 112]).length - 2)] = nP k
        rw [cut_suf]; unfold nP; rw [if_pos h1]
      · unfold pW; rw [hpe, if_pos rfl]; exact vw
    · rename_i h1
      have hpe : pE [tileB, Lib.decDigits h, Lib.decDigits l, 120 :: threeN (k / 1000), threeN (k % 1000) ++ [46, 112], Lib.decDigits w] = true := yes_suf _
      refine fin _ (by simp) (by simp) rfl rfl rfl ?_ ?_
      · unfold pL; rw [hpe, if_pos rfl]
        show [120 :: threeN (k / 1000), (threeN (k % 1000) ++ [46, 112]).take ((threeN (k % 1000) ++ [46, 112]).length - 2)] = nP k
        rw [cut_suf]; unfold nP; rw [if_neg h1]
      · unfold pW; rw [hpe, if_pos rfl]; exact vw
theorem rpar_some {s : List UInt8} {L : List (List UInt8)} {a b c d : Int} (h : rparP s L = some (a, b, c, d)) : pathQ a b c d = (s, 0) := by
  unfold rparP at h
  split at h
  · cases h
  · split at h
    · cases h
    · split at h
      · cases h
      · split at h
        · rename_i hq
          simp only [Option.some.injEq, Prod.mk.injEq] at h
          obtain ⟨h1, h2, h3, h4⟩ := h
          rw [← h1, ← h2, ← h3, ← h4]; exact hq
        · cases h
theorem rpar_par (s : List UInt8) : rparA s (splitB 47 s) = .tup [tileQ (parT s).1, .int .i64 (parT s).2] := by
  by_cases hh : ∃ p : Q4, IsT s p
  · obtain ⟨⟨h, l, k, w⟩, ht, hp⟩ := hh
    simp only at ht hp
    rw [parT_yes (⟨ht, hp⟩ : IsT s (h, l, k, w))]
    unfold rparA
    rw [rpar_yes ht hp]
    rfl
  · rw [parT_no hh]
    have : rparP s (splitB 47 s) = none := by
      cases hq : rparP s (splitB 47 s) with
      | none => rfl
      | some t =>
        obtain ⟨a, b, c, d⟩ := t
        exfalso
        have hp := rpar_some hq
        unfold pathQ at hp
        split at hp
        · rename_i ht
          obtain ⟨a1, a2, a3, a4, a5, a6, a7, a8, a9⟩ := ((tileP_num 1048576 a b c d).1 ht).1
          refine hh ⟨(a.toNat, b.toNat, c.toNat, d.toNat), ?_, ?_⟩
          · simp only
            rw [Int.toNat_of_nonneg (by omega), Int.toNat_of_nonneg (by omega), Int.toNat_of_nonneg (by omega), Int.toNat_of_nonneg (by omega)]
            exact ht
          · injection hp with hp _; exact hp.symm
        · injection hp with _ hp; cases hp
    unfold rparA
    rw [this]
    rfl
theorem rParse_eq (s : List UInt8) (hs : s.length ≤ 2 ^ 15) (σ : List (List AV)) : ev 23 [.str s] σ = some (.tup [tileQ (parT s).1, .int .i64 (parT s).2], σ) := by
  rw [rParsePath_eq s hs σ, rpar_par]
end Go.Proofs.Tryz.Ai
end
