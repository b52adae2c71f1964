/- Part 7 of a proof: a Go function is evaluated on abstract values (texts TL16a .. TI19); no conditions beyond those of each theorem. -/
import Derived.Test.YtmikahmnomfacaaGreatDoorAi6
set_option linter.all false
set_option linter.unusedVariables false
set_option linter.unusedSimpArgs false
set_option linter.unnecessarySimpa false
section
/- The first small functions of the statements about logs. -/
namespace Go.Proofs.Tryz.Ai
open Go Go.AI Go.Proofs
set_option maxHeartbeats 1000000
set_option linter.unusedVariables false

theorem few_eq (l : List (List UInt8)) (hl : l.length ≤ 2 ^ 40) (hx : ∀ x ∈ l, x.length ≤ 2 ^ 40) (σ) : ∃ b, ev 7 [.sl .sh (hs l)] σ = some (.bool b, σ) ∧ (b = true → l.length ≤ 70) := by
  have key : ∃ r, ev 7 [.sl .sh (hs l)] σ = some r ∧ ∃ b, r = (.bool b, σ) ∧ (b = true → l.length ≤ 70) := by
    refine EV_postE rfl Tryz.func7 rfl (by simp [Tryz.ntmps7]) (by kernel_rfl) (by kernel_rfl) ?_
    simp (maxSteps := 4000000) [List.getElem?_cons_zero, List.getElem?_cons_succ, ]
    refine Post_loop (I := fun x : Nat × Nat => ⟨[(0, .sl .sh (hs l)), (3, .int .i64 x.2), (4, .int .i64 x.1)], [], σ⟩) (Pr := fun x => x.1 ≤ l.length ∧ x.1 ≤ 71 ∧ x.2 ≤ 4000) (μ := fun x => l.length - x.1) (a := (0, 0)) (by simp [hs]) (by simp) ?_
    rintro ⟨i, n⟩ ⟨hi, hi2, hn⟩
    simp only at hi hi2 hn ⊢
    have hhl : (hs l).length = l.length := by simp [hs]
    by_cases hc : i < l.length
    · by_cases hc2 : i ≤ 70
      · obtain ⟨x, hxi⟩ : ∃ x, l[i]? = some x := ⟨_, List.getElem?_eq_getElem hc⟩
        have hxl := hx x (List.mem_of_getElem? hxi)
        have hxs : (hs l)[i]? = some (.sl .sh (x.map .u8)) := by simp [hs, hxi]
        have w2 : IntKind.i64.wrap ((i : Int) + 1) = (i : Int) + 1 := wrap64 (by omega)
        generalize hs l = H at *
        simp (maxSteps := 4000000) [List.getElem?_cons_zero, List.getElem?_cons_succ, -getElem?_pos, hhl, hc, hc2, hxs, w2]
        obtain ⟨t, ht1, ht2⟩ : ∃ t : Nat, (if 2000 < x.length then (2000 : Int) else x.length) = (t : Int) ∧ t ≤ 2000 := ⟨min x.length 2000, by split <;> omega, by omega⟩
        have w1 : IntKind.i64.wrap ((n : Int) + t) = ((n + t : Nat) : Int) := by rw [wrap64 (by omega)]; omega
        obtain ⟨u, hu⟩ : ∃ u, n + t ≤ 4000 ∧ u = n + t ∨ 4000 < n + t ∧ u = 4000 := by
          rcases Nat.lt_or_ge 4000 (n + t) with h | h
          · exact ⟨4000, .inr ⟨h, rfl⟩⟩
          · exact ⟨n + t, .inl ⟨h, rfl⟩⟩
        rw [ht1, w1]
        exact ⟨i + 1, u, ⟨by omega, by omega, by omega⟩, by omega, by split <;> omega, by omega⟩
      · have hl70 : ¬ l.length ≤ 70 := by omega
        generalize hs l = H at *
        simp (maxSteps := 4000000) [List.getElem?_cons_zero, List.getElem?_cons_succ, -getElem?_pos, hhl, hc, hc2, hl70, Tryz.results7]
    · generalize hs l = H at *
      simp (maxSteps := 4000000) [List.getElem?_cons_zero, List.getElem?_cons_succ, -getElem?_pos, hhl, hc, Tryz.results7]
      by_cases h70 : l.length ≤ 70
      · by_cases hn2 : n ≤ 2000
        · simp (maxSteps := 4000000) [List.getElem?_cons_zero, List.getElem?_cons_succ, -getElem?_pos, h70, hn2, Tryz.results7]
          exact ⟨_, _, ⟨rfl, rfl⟩, .inr ⟨rfl, rfl⟩⟩
        · simp (maxSteps := 4000000) [List.getElem?_cons_zero, List.getElem?_cons_succ, -getElem?_pos, h70, hn2, Tryz.results7]
          exact ⟨_, _, ⟨rfl, rfl⟩, .inl ⟨rfl, rfl⟩⟩
      · simp (maxSteps := 4000000) [List.getElem?_cons_zero, List.getElem?_cons_succ, -getElem?_pos, h70, Tryz.results7]
  obtain ⟨r, h1, b, rfl, h2⟩ := key
  exact ⟨b, h1, h2⟩
end Go.Proofs.Tryz.Ai
end
section
/- A tile's bytes: both sides. -/
namespace Go.Proofs.Tryz.Ai
open Go Go.AI Go.Proofs
set_option maxHeartbeats 8000000
set_option maxRecDepth 4000
set_option linter.unusedVariables false

theorem flat_lens (l : List (List UInt8)) (M : Nat) (h : ∀ x ∈ l, x.length ≤ M) : l.flatten.length ≤ l.length * M := by
  rw [List.length_flatten]; exact sum_le l M h
/-- the hashes of a tile, side by side -/
def tileBs (LB : List (List UInt8)) (g f i : Nat) : List UInt8 := ((List.range i).map fun j => wholeT nodeB (leafF LB) g (f + j)).flatten
theorem tileBs_succ (LB : List (List UInt8)) (g f i : Nat) : tileBs LB g f (i + 1) = tileBs LB g f i ++ wholeT nodeB (leafF LB) g (f + i) := by
  unfold tileBs; rw [List.range_succ, List.map_append, List.flatten_append]; simp
theorem tileBs_len {LB : List (List UInt8)} (hL : ∀ i, (leafF LB i).length ≤ 2 ^ 20) (g f i : Nat) : (tileBs LB g f i).length ≤ i * 2 ^ 20 := by
  unfold tileBs
  refine Nat.le_trans (flat_lens _ (2 ^ 20) ?_) (by simp)
  intro x hx
  obtain ⟨j, _, rfl⟩ := List.mem_map.1 hx
  exact wholeT_len _ _ _ hL
/-- what a log tells of a tile -/
def bytesQ (LB : List (List UInt8)) (H L N W : Int) : List UInt8 × Int := if tileP LB.length H L N W then (tileBs LB (H * L).toNat (N.toNat * 2 ^ H.toNat) W.toNat, 0) else ([], 6)
theorem LogOf.bytes {s : List (List AV)} {p q : Nat} {LB : List (List UInt8)} (hlog : LogOf s p q LB) (H L N W : Int) :
    ev 13 [logP p, tileA H L N W] s = some (.tup [.sl .sh ((bytesQ LB H L N W).1.map .u8), .int .i64 (bytesQ LB H L N W).2], s) := by
  have hS := hlog.size
  have hI := in_eq LB.length hlog.len H L N W
  by_cases ht : tileP LB.length H L N W
  · have hQ : bytesQ LB H L N W = (tileBs LB (H * L).toNat (N.toNat * 2 ^ H.toNat) W.toNat, 0) := by unfold bytesQ; rw [if_pos ht]
    rw [hQ]
    rw [decide_eq_true ht] at hI
    obtain ⟨⟨a1, a2, a3, a4, a5, a6, a7, a8, a9⟩, hb⟩ := (tileP_num LB.length H L N W).1 ht
    obtain ⟨h, rfl⟩ := Int.eq_ofNat_of_zero_le (show 0 ≤ H by omega)
    obtain ⟨l, rfl⟩ := Int.eq_ofNat_of_zero_le (show 0 ≤ L by omega)
    obtain ⟨k, rfl⟩ := Int.eq_ofNat_of_zero_le (show 0 ≤ N by omega)
    obtain ⟨w, rfl⟩ := Int.eq_ofNat_of_zero_le (show 0 ≤ W by omega)
    simp only [Int.toNat_natCast, show ((h : Int) * (l : Int)).toNat = h * l by rw [← Int.natCast_mul]; rfl] at hb ⊢
    have hg20 : h * l ≤ 20 := by rw [← Int.natCast_mul] at a5; omega
    have hp8 := pow8 (h := h) (by omega)
    have hw8 : w ≤ 256 := by
      simp only [Int.toNat_natCast] at a9
      generalize 2 ^ h = P at *
      omega
    have hlen := hlog.len
    have hleaf := hlog.leaf
    have hup := hlog.up
    have e1 := hlog.at'.log
    have e2 := hlog.at'.row
    have w1 : IntKind.i64.wrap ((h : Int) * l) = ((h * l : Nat) : Int) := by
      rw [← Int.natCast_mul]; generalize h * l = G at *; exact wrap64 (by omega)
    have hkp : k * 2 ^ h ≤ 1048576 * 256 := Nat.mul_le_mul (by omega) hp8
    have m1 : min h 64 = h := by omega
    have w2 : IntKind.i64.wrap ((k : Int) * 2 ^ h) = ((k * 2 ^ h : Nat) : Int) := by
      rw [show (k : Int) * 2 ^ h = ((k * 2 ^ h : Nat) : Int) by simp]
      generalize k * 2 ^ h = X at *
      exact wrap64 (by omega)
    have hbt : IntKind.i64.bits = 64 := rfl
    have hn1 : ¬ (h : Int) < 0 := by omega
    have hq : 0 < 2 ^ (h * l) := Nat.two_pow_pos _
    have hdiv : k * 2 ^ h + w ≤ LB.length / 2 ^ (h * l) := (Nat.le_div_iff_mul_le hq).2 hb
    have hrow : (rowsB LB)[h * l]? = some (rowT nodeB (leafF LB) (h * l) (LB.length / 2 ^ (h * l))) := by
      rw [hup, upT_get, if_pos (.inr (by omega)), Nat.zero_add]
    have hrl : h * l < (rowsB LB).length := (List.getElem?_eq_some_iff.1 hrow).1
    have e3 : ((rowsB LB).map rowA)[h * l]? = some (rowA (rowT nodeB (leafF LB) (h * l) (LB.length / 2 ^ (h * l)))) := by rw [List.getElem?_map, hrow]; rfl
    obtain ⟨g, hgg⟩ : ∃ g, h * l = g := ⟨_, rfl⟩
    rw [hgg] at w1 hrow hrl e3 hdiv ⊢
    obtain ⟨f, hff⟩ : ∃ f, k * 2 ^ h = f := ⟨_, rfl⟩
    rw [hff] at w2 hdiv hkp ⊢
    obtain ⟨r, hr⟩ : ∃ r, rowT nodeB (leafF LB) g (LB.length / 2 ^ g) = r := ⟨_, rfl⟩
    rw [hr] at e3
    obtain ⟨rl, hrlen⟩ : ∃ n, (rowsB LB).length = n := ⟨_, rfl⟩
    rw [hrlen] at e1 hrl
    obtain ⟨C, hC⟩ : ∃ C, (rowsB LB).map rowA = C := ⟨_, rfl⟩
    rw [hC] at e2 e3
    have hX : ∀ i, i < w → (hs r)[f + i]? = some (.sl .sh ((wholeT nodeB (leafF LB) g (f + i)).map .u8)) := by
      intro i hi
      unfold hs
      rw [List.getElem?_map, ← hr, rowT_get (by omega)]; rfl
    have hXl : ∀ i, i < w → f + i < (hs r).length := fun i hi => (List.getElem?_eq_some_iff.1 (hX i hi)).1
    obtain ⟨X, hXX⟩ : ∃ X, hs r = X := ⟨_, rfl⟩
    have eA : rowA r = .sl (rowO r) X := by unfold rowA; rw [hXX]
    rw [eA] at e3
    rw [hXX] at hX hXl
    simp only [tileA] at hI ⊢
    simp only [logP] at hS ⊢
    clear hgg hff hr hrow hup ht hb a9 hp8 hQ hXX eA hC hrlen
    refine EV_post rfl Tryz.func13 rfl (by simp [Tryz.ntmps13]) (by kernel_rfl) (by kernel_rfl) ?_
    simp (maxSteps := 4000000) [List.getElem?_cons_zero, List.getElem?_cons_succ, hS, hI]
    refine Post_loop (I := fun i : Nat => ⟨[(0, .gp p 0 (some (80, 1))), (3, .lp 3 0), (6, .sl (.ex 5 1) ((tileBs LB g f i).map .u8)), (14, .int .i64 w), (15, .int .i64 i)], [(3, [.int .i64 h, .int .i64 l, .int .i64 k, .int .i64 w])], s⟩)
      (Pr := fun i => i ≤ w) (μ := fun i => w - i) (a := 0) (by simp [tileBs]) (by simp) ?_
    intro i hi
    have w3 : IntKind.i64.wrap ((i : Int) + 1) = (i : Int) + 1 := wrap64 (by omega)
    by_cases hc : i < w
    · have hx := hX i hc
      have hxl := hXl i hc
      have hbl := tileBs_len hleaf g f i
      have hsx := tileBs_succ LB g f i
      have hxlen := wholeT_len (leafF LB) g (f + i) hleaf
      have w4 : IntKind.i64.wrap ((f : Int) + i) = ((f + i : Nat) : Int) := by rw [wrap64 (by omega)]; omega
      obtain ⟨fi, hfi⟩ : ∃ x, f + i = x := ⟨_, rfl⟩
      rw [hfi] at hx hxl hsx hxlen w4
      obtain ⟨x, hxx⟩ : ∃ x, wholeT nodeB (leafF LB) g fi = x := ⟨_, rfl⟩
      rw [hxx] at hx hsx hxlen
      obtain ⟨B, hB⟩ : ∃ B, tileBs LB g f i = B := ⟨_, rfl⟩
      rw [hB] at hbl hsx ⊢
      have hmost : B.length + x.length ≤ most := by unfold most; omega
      simp (maxSteps := 4000000) [List.getElem?_cons_zero, List.getElem?_cons_succ, -regionA_true, hc]
      refine Post_bndR ⟨[(0, .gp p 0 (some (80, 1))), (3, .lp 3 0), (6, .sl (.ex 5 1) (B.map .u8 ++ x.map .u8)), (14, .int .i64 w), (15, .int .i64 i), (7, .int .i64 i)], [(3, [.int .i64 h, .int .i64 l, .int .i64 k, .int .i64 w])], s⟩ ?_ ?_
      · simp (maxSteps := 4000000) [List.getElem?_cons_zero, List.getElem?_cons_succ, -getElem?_pos, e1, e2, e3, w1, hrl, m1, hbt, hn1, w2, w4, hx, hxl, hmost]
      simp (maxSteps := 4000000) [List.getElem?_cons_zero, List.getElem?_cons_succ, w3]
      exact ⟨i + 1, by omega, by omega, by rw [hsx]; simp⟩
    · obtain rfl : i = w := by omega
      simp (maxSteps := 4000000) [List.getElem?_cons_zero, List.getElem?_cons_succ, hc, Tryz.results13]
  · have hQ : bytesQ LB H L N W = ([], 6) := by unfold bytesQ; rw [if_neg ht]
    rw [decide_eq_false ht] at hI
    simp only [tileA] at hI ⊢
    simp only [logP] at hS ⊢
    refine EV_post rfl Tryz.func13 rfl (by simp [Tryz.ntmps13]) (by kernel_rfl) (by kernel_rfl) ?_
    simp (maxSteps := 4000000) [List.getElem?_cons_zero, List.getElem?_cons_succ, hS, hI, hQ, Tryz.results13]
end Go.Proofs.Tryz.Ai
end
section
/- A tile's bytes, the document's. -/
namespace Go.Proofs.Tryz.Ai
open Go Go.AI Go.Proofs
set_option maxHeartbeats 8000000
set_option maxRecDepth 4000
set_option linter.unusedVariables false

theorem hs_part (l : List (List UInt8)) (a b : Nat) : List.drop a (List.take b (hs l)) = hs ((l.take b).drop a) := by
  unfold hs; rw [List.map_drop, List.map_take]
theorem sub_whole (l : List (List UInt8)) (g x : Nat) (h : (x + 1) * 2 ^ g ≤ l.length) : hashL ((l.take (x * 2 ^ g + 2 ^ g)).drop (x * 2 ^ g)) = wholeT nodeB (leafF l) g x := by
  have hp : 0 < 2 ^ g := Nat.two_pow_pos _
  rw [Nat.add_mul, Nat.one_mul] at h
  have hl : ((l.take (x * 2 ^ g + 2 ^ g)).drop (x * 2 ^ g)).length = 2 ^ g := by rw [List.length_drop, List.length_take]; omega
  rw [hashL_span (L := leafF l) (f := x * 2 ^ g) (by omega) (fun i hi => ?_), hl, span_whole]
  rw [leafF_drop, leafF_take (by omega)]
theorem rBytes7_eq (LB : List (List UInt8)) (hlen : LB.length ≤ 1048576) (hsm : ∀ x ∈ LB, x.length = 32) (H L N W : Int) (σ) :
    ev 19 [tileA H L N W, .sl .sh (hs LB)] σ = some (.tup [.sl .sh ((bytesQ LB H L N W).1.map .u8), .int .i64 (bytesQ LB H L N W).2], σ) := by
  have hI := Within_eq LB.length hlen H L N W
  have hHl : (hs LB).length = LB.length := by simp [hs]
  by_cases ht : tileP LB.length H L N W
  · have hQ : bytesQ LB H L N W = (tileBs LB (H * L).toNat (N.toNat * 2 ^ H.toNat) W.toNat, 0) := by unfold bytesQ; rw [if_pos ht]
    rw [hQ]
    rw [decide_eq_true ht] at hI
    obtain ⟨⟨a1, a2, a3, a4, a5, a6, a7, a8, a9⟩, hb⟩ := (tileP_num LB.length H L N W).1 ht
    obtain ⟨h, rfl⟩ := Int.eq_ofNat_of_zero_le (show 0 ≤ H by omega)
    obtain ⟨l, rfl⟩ := Int.eq_ofNat_of_zero_le (show 0 ≤ L by omega)
    obtain ⟨k, rfl⟩ := Int.eq_ofNat_of_zero_le (show 0 ≤ N by omega)
    obtain ⟨w, rfl⟩ := Int.eq_ofNat_of_zero_le (show 0 ≤ W by omega)
    simp only [Int.toNat_natCast, show ((h : Int) * (l : Int)).toNat = h * l by rw [← Int.natCast_mul]; rfl] at hb ⊢
    have hg20 : h * l ≤ 20 := by rw [← Int.natCast_mul] at a5; omega
    have hp8 := pow8 (h := h) (by omega)
    have hw8 : w ≤ 256 := by
      simp only [Int.toNat_natCast] at a9
      generalize 2 ^ h = P at *
      omega
    have hleaf : ∀ i, (leafF LB i).length ≤ 2 ^ 20 := leafF_len LB (fun x hx => by rw [hsm x hx]; omega)
    have w1 : IntKind.i64.wrap ((h : Int) * l) = ((h * l : Nat) : Int) := by
      rw [← Int.natCast_mul]; generalize h * l = G at *; exact wrap64 (by omega)
    have hkp : k * 2 ^ h ≤ 1048576 * 256 := Nat.mul_le_mul (by omega) hp8
    have p1 := Power_eq h (by omega)
    have p2 := Power_eq (h * l) (by omega)
    have w2 : IntKind.i64.wrap ((k : Int) * ((2 ^ h : Nat) : Int)) = ((k * 2 ^ h : Nat) : Int) := by
      rw [← Int.natCast_mul]; generalize k * 2 ^ h = X at *; exact wrap64 (by omega)
    have hq : 0 < 2 ^ (h * l) := Nat.two_pow_pos _
    have hsub := fun x hx => sub_whole LB (h * l) x hx
    obtain ⟨g, hgg⟩ : ∃ g, h * l = g := ⟨_, rfl⟩
    rw [hgg] at w1 p2 hb hq hsub ⊢
    obtain ⟨f, hff⟩ : ∃ f, k * 2 ^ h = f := ⟨_, rfl⟩
    rw [hff] at w2 hb hkp ⊢
    have hat : ∀ i, i < w → (f + i + 1) * 2 ^ g ≤ LB.length := fun i hi => Nat.le_trans (Nat.mul_le_mul_right _ (by omega)) hb
    have hHash : ∀ i, i < w → ∀ σ, ev 63 [.sl .sh (hs ((LB.take ((f + i) * 2 ^ g + 2 ^ g)).drop ((f + i) * 2 ^ g)))] σ = some (.sl (.ex 5 1) ((wholeT nodeB (leafF LB) g (f + i)).map .u8), σ) := by
      intro i hi σ
      have := rHash_eq _ ((LB.take ((f + i) * 2 ^ g + 2 ^ g)).drop ((f + i) * 2 ^ g)) rfl (by rw [List.length_drop, List.length_take]; omega) (fun x hx => by rw [hsm x (List.mem_of_mem_take (List.mem_of_mem_drop hx))]; omega) σ
      rw [hsub (f + i) (hat i hi)] at this
      exact this
    obtain ⟨one, hone⟩ : ∃ x, 2 ^ g = x := ⟨_, rfl⟩
    rw [hone] at p2 hq
    obtain ⟨ph, hph⟩ : ∃ x : Int, ((2 ^ h : Nat) : Int) = x := ⟨_, rfl⟩
    rw [hph] at p1 w2
    simp only [hone] at hat hHash
    simp only [tileA] at hI ⊢
    obtain ⟨HL, hHLd⟩ : ∃ x, hs LB = x := ⟨_, rfl⟩
    have hpart : ∀ a b, List.drop a (List.take b HL) = hs ((LB.take b).drop a) := fun a b => by rw [← hHLd]; exact hs_part LB a b
    rw [hHLd] at hHl ⊢
    have hall : allCells 1 HL := by rw [← hHLd]; exact fun y hy => by obtain ⟨z, _, rfl⟩ := List.mem_map.1 hy; exact ⟨rfl, fun c hc => by simp [AV.cells] at hc; subst hc; rfl⟩
    clear hgg hff ht a9 hp8 hQ hone hph hsub hHLd
    refine EV_post rfl Tryz.func19 rfl (by simp [Tryz.ntmps19]) (by kernel_rfl) (by kernel_rfl) ?_
    simp (maxSteps := 4000000) [List.getElem?_cons_zero, List.getElem?_cons_succ, hHl, hI, w1, p2]
    refine Post_loop (I := fun i : Nat => ⟨[(1, .sl .sh HL), (2, .lp 2 0), (6, .sl (.ex 5 1) ((tileBs LB g f i).map .u8)), (7, .int .i64 one), (8, .int .i64 i)], [(2, [.int .i64 h, .int .i64 l, .int .i64 k, .int .i64 w])], σ⟩)
      (Pr := fun i => i ≤ w) (μ := fun i => w - i) (a := 0) (by simp [tileBs]) (by simp) ?_
    intro i hi
    have w3 : IntKind.i64.wrap ((i : Int) + 1) = (i : Int) + 1 := wrap64 (by omega)
    by_cases hc : i < w
    · have hbl := tileBs_len hleaf g f i
      have hsx := tileBs_succ LB g f i
      have hxlen := wholeT_len (leafF LB) g (f + i) hleaf
      have w4 : IntKind.i64.wrap ((f : Int) + i) = ((f + i : Nat) : Int) := by rw [wrap64 (by omega)]; omega
      have hai := hat i hc
      have hHi := hHash i hc
      obtain ⟨fi, hfi⟩ : ∃ x, f + i = x := ⟨_, rfl⟩
      rw [hfi] at hsx hxlen w4 hai hHi
      have hmul : (fi + 1) * one = fi * one + one := by rw [Nat.add_mul, Nat.one_mul]
      rw [hmul] at hai
      have w5 : IntKind.i64.wrap ((fi : Int) * one) = ((fi * one : Nat) : Int) := by
        rw [← Int.natCast_mul]; generalize fi * one = X at *; exact wrap64 (by omega)
      obtain ⟨st, hst⟩ : ∃ x, fi * one = x := ⟨_, rfl⟩
      rw [hst] at w5 hai hHi
      have w6 : IntKind.i64.wrap ((st : Int) + one) = ((st + one : Nat) : Int) := by rw [wrap64 (by omega)]; omega
      obtain ⟨en, hen⟩ : ∃ x, st + one = x := ⟨_, rfl⟩
      rw [hen] at w6 hai hHi
      have hse : st ≤ en := by omega
      have hpt := hpart st en
      obtain ⟨PT, hPT⟩ : ∃ x, hs ((LB.take en).drop st) = x := ⟨_, rfl⟩
      rw [hPT] at hpt hHi
      obtain ⟨x, hxx⟩ : ∃ x, wholeT nodeB (leafF LB) g fi = x := ⟨_, rfl⟩
      rw [hxx] at hHi hsx hxlen
      obtain ⟨B, hB⟩ : ∃ B, tileBs LB g f i = B := ⟨_, rfl⟩
      rw [hB] at hbl hsx ⊢
      have hmost : B.length + x.length ≤ most := by unfold most; omega
      simp (maxSteps := 4000000) [List.getElem?_cons_zero, List.getElem?_cons_succ, -regionA_true, hc]
      refine Post_bndR ⟨[(1, .sl .sh HL), (2, .lp 2 0), (6, .sl (.ex 5 1) (B.map .u8)), (7, .int .i64 one), (8, .int .i64 i), (9, .int .i64 st)], [(2, [.int .i64 h, .int .i64 l, .int .i64 k, .int .i64 w])], σ⟩ ?_ ?_
      · simp (maxSteps := 4000000) [List.getElem?_cons_zero, List.getElem?_cons_succ, p1, w2, w4, w5]
      simp (maxSteps := 4000000) [List.getElem?_cons_zero, List.getElem?_cons_succ, w6, hHl, hse, hai, hall, hpt, hHi, hmost, w3]
      exact ⟨i + 1, by omega, by omega, by rw [hsx]; simp, by simp⟩
    · obtain rfl : i = w := by omega
      simp (maxSteps := 4000000) [List.getElem?_cons_zero, List.getElem?_cons_succ, hc, Tryz.results19]
  · have hQ : bytesQ LB H L N W = ([], 6) := by unfold bytesQ; rw [if_neg ht]
    rw [decide_eq_false ht] at hI
    simp only [tileA] at hI ⊢
    obtain ⟨HL, hHLd⟩ : ∃ x, hs LB = x := ⟨_, rfl⟩
    rw [hHLd] at hHl ⊢
    refine EV_post rfl Tryz.func19 rfl (by simp [Tryz.ntmps19]) (by kernel_rfl) (by kernel_rfl) ?_
    simp (maxSteps := 4000000) [List.getElem?_cons_zero, List.getElem?_cons_succ, hHl, hI, hQ, Tryz.results19]
end Go.Proofs.Tryz.Ai
end
section
/- A hash, by those in a tile; the document's. -/
namespace Go.Proofs.Tryz.Ai
open Go Go.AI Go.Proofs
set_option maxHeartbeats 8000000
set_option maxRecDepth 4000
set_option linter.unusedVariables false

section
variable {P : Program} {h : Hint} {C : Oracle}
theorem bnd_reg {ops : List Oper} {st : St} {F : St → St} {st2 : St} (ds : List Nat) (st0 : St) (e : allocDs ops = ds) (e0 : startD ds st = st0)
    (k : PostD (runD P h C ds ops ops st0) fun s => F s = st2) : bnd (regionA P h C ops true st) (fun st => some (F st)) = some st2 := by
  obtain ⟨s, h1, h2⟩ := k
  rw [regionA, if_pos rfl, e, e0, h1]
  show some (F s) = some st2
  rw [h2]
theorem PostD_no1 {ds : List Nat} {ops r : List Oper} {st : St} {o : Oper} {K : St → Prop} (st1 : St) (hw : wantedA ops o.guard st = some false) (hq : okAll ds st.t (tkT h o).toList = true)
    (hs : st.put o.dst (.tup []) = st1) (k : PostD (runD P h C ds ops r st1) K) : PostD (runD P h C ds ops (o :: r) st) K := PostD_no hw hq (by rw [hs]; exact k)
end
/-- hashes that stand side by side -/
def chunks (d : List UInt8) (f n : Nat) : List (List UInt8) := (List.range n).map fun j => chunk d (f + j)
theorem chunks_succ (d : List UInt8) (f n : Nat) : chunks d f (n + 1) = chunks d f n ++ [chunk d (f + n)] := by
  unfold chunks; rw [List.range_succ, List.map_append]; rfl
theorem chunks_len (d : List UInt8) (f n : Nat) : (chunks d f n).length = n := by simp [chunks]
theorem chunks_get (d : List UInt8) (f n i : Nat) (h : i < n) : leafF (chunks d f n) i = chunk d (f + i) := by
  simp [leafF, chunks, List.getD_eq_getElem?_getD, h]
theorem chunks_whole (d : List UInt8) (u q : Nat) : hashL (chunks d (q * 2 ^ u) (2 ^ u)) = wholeT nodeB (chunk d) u q := by
  have hp : 0 < 2 ^ u := Nat.two_pow_pos _
  rw [hashL_span (L := chunk d) (f := q * 2 ^ u) (by rw [chunks_len]; omega) (fun i hi => chunks_get d _ _ i (by rw [chunks_len] at hi; exact hi)), chunks_len, span_whole]
theorem rInTile_eq (H L N W : Int) (d : List UInt8) (v k : Int) (hd : d.length ≤ 2 ^ 30) (hv : v < 2 ^ 63) (hk : k < 2 ^ 63) (s : List (List AV)) :
    ev 21 [tileA H L N W, .sl .sh (d.map .u8), .int .i64 v, .int .i64 k] s = some (.tup [.sl .sh ((inTileQ H L N W d v k).1.map .u8), .int .i64 (inTileQ H L N W d v k).2], s) := by
  obtain ⟨B, hB⟩ : ∃ B, decide (fitsP H L N W ∧ (d.length : Int) = 32 * W) = B := ⟨_, rfl⟩
  simp only [tileA]
  refine EV_post rfl Tryz.func21 rfl (by simp [Tryz.ntmps21]) (by kernel_rfl) (by kernel_rfl) ?_
  simp (maxSteps := 4000000) [List.getElem?_cons_zero, List.getElem?_cons_succ, -regionA_true]
  refine Post_bndR ⟨[(0, .agg [.int .i64 H, .int .i64 L, .int .i64 N, .int .i64 W]), (1, .sl .sh (d.map .u8)), (2, .int .i64 v), (3, .int .i64 k), (4, .lp 4 0), (8, .sl (.ex 5 1) []), (9, .int .i64 0), (52, .bool (!B))], [(4, [.int .i64 H, .int .i64 L, .int .i64 N, .int .i64 W])], s⟩ ?_ ?_
  · have no : ¬ (fitsP H L N W ∧ (d.length : Int) = 32 * W) → B = false := fun h => by rw [← hB]; exact decide_eq_false h
    by_cases h1 : H < 1
    · have e := no (by rintro ⟨h, _⟩; have := h.1; omega)
      refine bnd_reg [] _ (by rfl) (by simp (maxSteps := 4000000) [List.getElem?_cons_zero, List.getElem?_cons_succ, ]; exact rfl) ?_
      repeat (first
        | refine PostD_go _ (by rfl) (by rfl) (by simp (maxSteps := 4000000) [List.getElem?_cons_zero, List.getElem?_cons_succ, h1]; exact rfl) (by first | exact .inl rfl | exact .inr rfl) (by rfl) ?_
        | refine PostD_no1 _ (by rfl) (by rfl) (by simp (maxSteps := 4000000) [List.getElem?_cons_zero, List.getElem?_cons_succ, ]; exact rfl) ?_)
      refine PostD_end ?_
      simp (maxSteps := 4000000) [List.getElem?_cons_zero, List.getElem?_cons_succ, e]
    · by_cases h2 : 8 < H
      · have e := no (by rintro ⟨h, _⟩; have := h.2.1; omega)
        refine bnd_reg [] _ (by rfl) (by simp (maxSteps := 4000000) [List.getElem?_cons_zero, List.getElem?_cons_succ, ]; exact rfl) ?_
        repeat (first
          | refine PostD_go _ (by rfl) (by rfl) (by simp (maxSteps := 4000000) [List.getElem?_cons_zero, List.getElem?_cons_succ, h1, h2]; exact rfl) (by first | exact .inl rfl | exact .inr rfl) (by rfl) ?_
          | refine PostD_no1 _ (by rfl) (by rfl) (by simp (maxSteps := 4000000) [List.getElem?_cons_zero, List.getElem?_cons_succ, ]; exact rfl) ?_)
        refine PostD_end ?_
        simp (maxSteps := 4000000) [List.getElem?_cons_zero, List.getElem?_cons_succ, e]
      · obtain ⟨h, rfl⟩ := Int.eq_ofNat_of_zero_le (show 0 ≤ H by omega)
        have h1' : ¬ h < 1 := by omega
        have h2' : ¬ 8 < h := by omega
        have p1 := Power_eq h (by omega)
        have hp8 := pow8 (h := h) (by omega)
        have hfit : fitsP h L N W ↔ 0 ≤ L ∧ 0 ≤ N ∧ 1 ≤ W ∧ W ≤ ((2 ^ h : Nat) : Int) := by
          unfold fitsP; rw [Int.toNat_natCast]
          exact ⟨fun ⟨_, _, a, b, c, d⟩ => ⟨a, b, c, d⟩, fun ⟨a, b, c, d⟩ => ⟨by omega, by omega, a, b, c, d⟩⟩
        rw [hfit] at no
        by_cases h3 : W < 1
        · have e := no (by omega)
          refine bnd_reg [] _ (by rfl) (by simp (maxSteps := 4000000) [List.getElem?_cons_zero, List.getElem?_cons_succ, ]; exact rfl) ?_
          repeat (first
            | refine PostD_go _ (by rfl) (by rfl) (by simp (maxSteps := 4000000) [List.getElem?_cons_zero, List.getElem?_cons_succ, h1', h2', h3]; exact rfl) (by first | exact .inl rfl | exact .inr rfl) (by rfl) ?_
            | refine PostD_no1 _ (by rfl) (by rfl) (by simp (maxSteps := 4000000) [List.getElem?_cons_zero, List.getElem?_cons_succ, ]; exact rfl) ?_)
          refine PostD_end ?_
          simp (maxSteps := 4000000) [List.getElem?_cons_zero, List.getElem?_cons_succ, e]
        · obtain ⟨ph, hph⟩ : ∃ x : Int, ((2 ^ h : Nat) : Int) = x := ⟨_, rfl⟩
          rw [hph] at p1 no hfit
          by_cases h4 : ph < W
          · have e := no (by omega)
            refine bnd_reg [] _ (by rfl) (by simp (maxSteps := 4000000) [List.getElem?_cons_zero, List.getElem?_cons_succ, ]; exact rfl) ?_
            repeat (first
              | refine PostD_go _ (by rfl) (by rfl) (by simp (maxSteps := 4000000) [List.getElem?_cons_zero, List.getElem?_cons_succ, h1', h2', h3, p1, h4]; exact rfl) (by first | exact .inl rfl | exact .inr rfl) (by rfl) ?_
              | refine PostD_no1 _ (by rfl) (by rfl) (by simp (maxSteps := 4000000) [List.getElem?_cons_zero, List.getElem?_cons_succ, ]; exact rfl) ?_)
            refine PostD_end ?_
            simp (maxSteps := 4000000) [List.getElem?_cons_zero, List.getElem?_cons_succ, e]
          · by_cases h5 : L < 0
            · have e := no (by omega)
              refine bnd_reg [] _ (by rfl) (by simp (maxSteps := 4000000) [List.getElem?_cons_zero, List.getElem?_cons_succ, ]; exact rfl) ?_
              repeat (first
                | refine PostD_go _ (by rfl) (by rfl) (by simp (maxSteps := 4000000) [List.getElem?_cons_zero, List.getElem?_cons_succ, h1', h2', h3, p1, h4, h5]; exact rfl) (by first | exact .inl rfl | exact .inr rfl) (by rfl) ?_
                | refine PostD_no1 _ (by rfl) (by rfl) (by simp (maxSteps := 4000000) [List.getElem?_cons_zero, List.getElem?_cons_succ, ]; exact rfl) ?_)
              refine PostD_end ?_
              simp (maxSteps := 4000000) [List.getElem?_cons_zero, List.getElem?_cons_succ, e]
            · by_cases h6 : N < 0
              · have e := no (by omega)
                refine bnd_reg [] _ (by rfl) (by simp (maxSteps := 4000000) [List.getElem?_cons_zero, List.getElem?_cons_succ, ]; exact rfl) ?_
                repeat (first
                  | refine PostD_go _ (by rfl) (by rfl) (by simp (maxSteps := 4000000) [List.getElem?_cons_zero, List.getElem?_cons_succ, h1', h2', h3, p1, h4, h5, h6]; exact rfl) (by first | exact .inl rfl | exact .inr rfl) (by rfl) ?_
                  | refine PostD_no1 _ (by rfl) (by rfl) (by simp (maxSteps := 4000000) [List.getElem?_cons_zero, List.getElem?_cons_succ, ]; exact rfl) ?_)
                refine PostD_end ?_
                simp (maxSteps := 4000000) [List.getElem?_cons_zero, List.getElem?_cons_succ, e]
              · have hW256 : W ≤ 256 := by rw [← hph] at h4; omega
                have w1 : IntKind.i64.wrap (32 * W) = 32 * W := wrap64 (by omega)
                by_cases h7 : (d.length : Int) = 32 * W
                · have e : B = true := by rw [← hB]; exact decide_eq_true ⟨hfit.2 ⟨by omega, by omega, by omega, by omega⟩, h7⟩
                  refine bnd_reg [] _ (by rfl) (by simp (maxSteps := 4000000) [List.getElem?_cons_zero, List.getElem?_cons_succ, ]; exact rfl) ?_
                  repeat (first
                    | refine PostD_go _ (by rfl) (by rfl) (by simp (maxSteps := 4000000) [List.getElem?_cons_zero, List.getElem?_cons_succ, h1', h2', h3, p1, h4, h5, h6, w1, h7]; exact rfl) (by first | exact .inl rfl | exact .inr rfl) (by rfl) ?_
                    | refine PostD_no1 _ (by rfl) (by rfl) (by simp (maxSteps := 4000000) [List.getElem?_cons_zero, List.getElem?_cons_succ, ]; exact rfl) ?_)
                  refine PostD_end ?_
                  simp (maxSteps := 4000000) [List.getElem?_cons_zero, List.getElem?_cons_succ, e]
                · have e := no (by omega)
                  refine bnd_reg [] _ (by rfl) (by simp (maxSteps := 4000000) [List.getElem?_cons_zero, List.getElem?_cons_succ, ]; exact rfl) ?_
                  repeat (first
                    | refine PostD_go _ (by rfl) (by rfl) (by simp (maxSteps := 4000000) [List.getElem?_cons_zero, List.getElem?_cons_succ, h1', h2', h3, p1, h4, h5, h6, w1, h7]; exact rfl) (by first | exact .inl rfl | exact .inr rfl) (by rfl) ?_
                    | refine PostD_no1 _ (by rfl) (by rfl) (by simp (maxSteps := 4000000) [List.getElem?_cons_zero, List.getElem?_cons_succ, ]; exact rfl) ?_)
                  refine PostD_end ?_
                  simp (maxSteps := 4000000) [List.getElem?_cons_zero, List.getElem?_cons_succ, e]
  cases B with
  | false =>
    have hQ : inTileQ H L N W d v k = ([], 15) := by unfold inTileQ; rw [if_pos (of_decide_eq_false hB)]
    simp (maxSteps := 4000000) [List.getElem?_cons_zero, List.getElem?_cons_succ, hQ, Tryz.results21]
  | true =>
    have hfl := of_decide_eq_true hB
    have hno : ¬ ¬ (fitsP H L N W ∧ (d.length : Int) = 32 * W) := fun q => q hfl
    obtain ⟨⟨f1, f2, f3, f4, f5, f6⟩, h7⟩ := hfl
    obtain ⟨h, rfl⟩ := Int.eq_ofNat_of_zero_le (show 0 ≤ H by omega)
    obtain ⟨l, rfl⟩ := Int.eq_ofNat_of_zero_le (show 0 ≤ L by omega)
    obtain ⟨m, rfl⟩ := Int.eq_ofNat_of_zero_le (show 0 ≤ N by omega)
    obtain ⟨w, rfl⟩ := Int.eq_ofNat_of_zero_le (show 0 ≤ W by omega)
    have hh0 : ¬ h = 0 := by omega
    have hp8 := pow8 (h := h) (by omega)
    have hw256 : w ≤ 256 := by
      rw [Int.toNat_natCast] at f6
      generalize 2 ^ h = X at *
      omega
    obtain ⟨C, hC⟩ : ∃ C, decide (v < 0 ∨ k < 0 ∨ ((v.toNat / h : Nat) : Int) ≠ l) = C := ⟨_, rfl⟩
    simp (maxSteps := 4000000) [List.getElem?_cons_zero, List.getElem?_cons_succ, -regionA_true]
    refine Post_bndR ⟨[(0, .agg [.int .i64 h, .int .i64 l, .int .i64 m, .int .i64 w]), (1, .sl .sh (d.map .u8)), (2, .int .i64 v), (3, .int .i64 k), (4, .lp 4 0), (8, .sl (.ex 5 1) []), (9, .int .i64 0), (67, .bool C)], [(4, [.int .i64 h, .int .i64 l, .int .i64 m, .int .i64 w])], s⟩ ?_ ?_
    · by_cases h8 : v < 0
      · have e : C = true := by rw [← hC]; exact decide_eq_true (.inl h8)
        refine bnd_reg [] _ (by rfl) (by simp (maxSteps := 4000000) [List.getElem?_cons_zero, List.getElem?_cons_succ, ]; exact rfl) ?_
        repeat (first
          | refine PostD_go _ (by rfl) (by rfl) (by simp (maxSteps := 4000000) [List.getElem?_cons_zero, List.getElem?_cons_succ, h8]; exact rfl) (by first | exact .inl rfl | exact .inr rfl) (by rfl) ?_
          | refine PostD_no1 _ (by rfl) (by rfl) (by simp (maxSteps := 4000000) [List.getElem?_cons_zero, List.getElem?_cons_succ, ]; exact rfl) ?_)
        refine PostD_end ?_
        simp (maxSteps := 4000000) [List.getElem?_cons_zero, List.getElem?_cons_succ, e]
      · by_cases h9 : k < 0
        · have e : C = true := by rw [← hC]; exact decide_eq_true (.inr (.inl h9))
          refine bnd_reg [] _ (by rfl) (by simp (maxSteps := 4000000) [List.getElem?_cons_zero, List.getElem?_cons_succ, ]; exact rfl) ?_
          repeat (first
            | refine PostD_go _ (by rfl) (by rfl) (by simp (maxSteps := 4000000) [List.getElem?_cons_zero, List.getElem?_cons_succ, h8, h9]; exact rfl) (by first | exact .inl rfl | exact .inr rfl) (by rfl) ?_
            | refine PostD_no1 _ (by rfl) (by rfl) (by simp (maxSteps := 4000000) [List.getElem?_cons_zero, List.getElem?_cons_succ, ]; exact rfl) ?_)
          refine PostD_end ?_
          simp (maxSteps := 4000000) [List.getElem?_cons_zero, List.getElem?_cons_succ, e]
        · obtain ⟨a, rfl⟩ := Int.eq_ofNat_of_zero_le (show 0 ≤ v by omega)
          have d1 : (a : Int).tdiv h = ((a / h : Nat) : Int) := by rw [Int.tdiv_eq_ediv_of_nonneg (by omega)]; simp
          have hal : a / h ≤ a := Nat.div_le_self _ _
          have w2 : IntKind.i64.wrap ((a / h : Nat) : Int) = ((a / h : Nat) : Int) := by generalize a / h = G at *; exact wrap64 (by omega)
          rw [Int.toNat_natCast] at hC
          generalize ((a / h : Nat) : Int) = G at *
          by_cases hL : G = (l : Int)
          · have e : C = false := by rw [← hC]; exact decide_eq_false (by rintro (q | q | q); omega; omega; exact q hL)
            rw [hL] at d1 w2
            refine bnd_reg [] _ (by rfl) (by simp (maxSteps := 4000000) [List.getElem?_cons_zero, List.getElem?_cons_succ, ]; exact rfl) ?_
            repeat (first
              | refine PostD_go _ (by rfl) (by rfl) (by simp (maxSteps := 4000000) [List.getElem?_cons_zero, List.getElem?_cons_succ, h8, h9, hh0, d1, w2]; exact rfl) (by first | exact .inl rfl | exact .inr rfl) (by rfl) ?_
              | refine PostD_no1 _ (by rfl) (by rfl) (by simp (maxSteps := 4000000) [List.getElem?_cons_zero, List.getElem?_cons_succ, ]; exact rfl) ?_)
            refine PostD_end ?_
            simp (maxSteps := 4000000) [List.getElem?_cons_zero, List.getElem?_cons_succ, e]
          · have e : C = true := by rw [← hC]; exact decide_eq_true (.inr (.inr hL))
            refine bnd_reg [] _ (by rfl) (by simp (maxSteps := 4000000) [List.getElem?_cons_zero, List.getElem?_cons_succ, ]; exact rfl) ?_
            repeat (first
              | refine PostD_go _ (by rfl) (by rfl) (by simp (maxSteps := 4000000) [List.getElem?_cons_zero, List.getElem?_cons_succ, h8, h9, hh0, d1, w2, hL]; exact rfl) (by first | exact .inl rfl | exact .inr rfl) (by rfl) ?_
              | refine PostD_no1 _ (by rfl) (by rfl) (by simp (maxSteps := 4000000) [List.getElem?_cons_zero, List.getElem?_cons_succ, ]; exact rfl) ?_)
            refine PostD_end ?_
            simp (maxSteps := 4000000) [List.getElem?_cons_zero, List.getElem?_cons_succ, e]
    cases C with
    | true =>
      have hor : v < 0 ∨ k < 0 ∨ ((v.toNat / (h : Int).toNat : Nat) : Int) ≠ l := of_decide_eq_true hC
      have hQ : inTileQ h l m w d v k = ([], 6) := by unfold inTileQ; rw [if_neg hno, if_pos hor]
      simp (maxSteps := 4000000) [List.getElem?_cons_zero, List.getElem?_cons_succ, hQ, Tryz.results21]
    | false =>
      have hvk := of_decide_eq_false hC
      have hno2 : ¬ (v < 0 ∨ k < 0 ∨ ((v.toNat / (h : Int).toNat : Nat) : Int) ≠ l) := hvk
      obtain ⟨a, rfl⟩ := Int.eq_ofNat_of_zero_le (show 0 ≤ v by omega)
      obtain ⟨b, rfl⟩ := Int.eq_ofNat_of_zero_le (show 0 ≤ k by omega)
      obtain ⟨ph, hph⟩ : ∃ x : Int, ((2 ^ h : Nat) : Int) = x := ⟨_, rfl⟩
      have p1 := Power_eq h (by omega)
      rw [hph] at p1
      have hu : a % h < h := Nat.mod_lt _ (by omega)
      have r1 : (a : Int).tmod h = ((a % h : Nat) : Int) := by rw [Int.tmod_eq_emod_of_nonneg (by omega)]; simp
      have p2 := Power_eq (a % h) (by omega)
      have p1' : 0 < 2 ^ (a % h) := Nat.two_pow_pos _
      have p2' : 0 < 2 ^ (h - a % h) := Nat.two_pow_pos _
      have q1 := pow8 (h := a % h) (by omega)
      have q2 := pow8 (h := h - a % h) (by omega)
      have hdv : ph.tdiv ((2 ^ (a % h) : Nat) : Int) = ((2 ^ (h - a % h) : Nat) : Int) := by
        rw [← hph, Int.tdiv_eq_ediv_of_nonneg (Int.natCast_nonneg _), ← Int.natCast_ediv, Nat.pow_div (by omega) (by omega)]
      have w3 : IntKind.i64.wrap ((2 ^ (h - a % h) : Nat) : Int) = ((2 ^ (h - a % h) : Nat) : Int) := wrap64 (by omega)
      have z1 : ¬ ((2 ^ (a % h) : Nat) : Int) = 0 := by omega
      have z2 : ¬ ((2 ^ (h - a % h) : Nat) : Int) = 0 := by omega
      have d2 : (b : Int).tdiv ((2 ^ (h - a % h) : Nat) : Int) = ((b / 2 ^ (h - a % h) : Nat) : Int) := by rw [Int.tdiv_eq_ediv_of_nonneg (by omega)]; simp
      have hbl : b / 2 ^ (h - a % h) ≤ b := Nat.div_le_self _ _
      have w4 : IntKind.i64.wrap ((b / 2 ^ (h - a % h) : Nat) : Int) = ((b / 2 ^ (h - a % h) : Nat) : Int) := by generalize b / 2 ^ (h - a % h) = G at *; exact wrap64 (by omega)
      have r2 : (b : Int).tmod ((2 ^ (h - a % h) : Nat) : Int) = ((b % 2 ^ (h - a % h) : Nat) : Int) := by rw [Int.tmod_eq_emod_of_nonneg (by omega)]; simp
      have hq : b % 2 ^ (h - a % h) < 2 ^ (h - a % h) := Nat.mod_lt _ p2'
      have hqp : b % 2 ^ (h - a % h) * 2 ^ (a % h) ≤ 256 * 256 := Nat.mul_le_mul (by omega) q1
      have w5 : IntKind.i64.wrap (((b % 2 ^ (h - a % h) : Nat) : Int) * ((2 ^ (a % h) : Nat) : Int)) = ((b % 2 ^ (h - a % h) * 2 ^ (a % h) : Nat) : Int) := by
        rw [← Int.natCast_mul]; generalize b % 2 ^ (h - a % h) * 2 ^ (a % h) = X at *; exact wrap64 (by omega)
      have w6 : IntKind.i64.wrap (((b % 2 ^ (h - a % h) * 2 ^ (a % h) : Nat) : Int) + ((2 ^ (a % h) : Nat) : Int)) = ((b % 2 ^ (h - a % h) * 2 ^ (a % h) + 2 ^ (a % h) : Nat) : Int) := by
        clear w5 r2 d2 hdv
        generalize b % 2 ^ (h - a % h) * 2 ^ (a % h) = X at *
        generalize 2 ^ (a % h) = Y at *
        rw [wrap64 (by omega)]; omega
      have hQ0 : inTileQ h l m w d a b = if ((b / 2 ^ (h - a % h) : Nat) : Int) ≠ m ∨ (w : Int) < ((b % 2 ^ (h - a % h) * 2 ^ (a % h) + 2 ^ (a % h) : Nat) : Int) then ([], 6) else (wholeT nodeB (chunk d) (a % h) (b % 2 ^ (h - a % h)), 0) := by
        unfold inTileQ; rw [if_neg hno, if_neg hno2]; rfl
      have hcw := chunks_whole d (a % h) (b % 2 ^ (h - a % h))
      obtain ⟨Z, hZ⟩ : ∃ Z, wholeT nodeB (chunk d) (a % h) (b % 2 ^ (h - a % h)) = Z := ⟨_, rfl⟩
      rw [hZ] at hQ0 hcw
      obtain ⟨first, hfirst⟩ : ∃ x, b % 2 ^ (h - a % h) * 2 ^ (a % h) = x := ⟨_, rfl⟩
      rw [hfirst] at w5 w6 hQ0 hcw hqp
      obtain ⟨size, hsize⟩ : ∃ x, 2 ^ (a % h) = x := ⟨_, rfl⟩
      rw [hsize] at p2 w5 w6 hQ0 hcw z1 hdv q1 p1'
      generalize ((b % 2 ^ (h - a % h) : Nat) : Int) = Q at *
      generalize ((b / 2 ^ (h - a % h) : Nat) : Int) = D at *
      generalize ((2 ^ (h - a % h) : Nat) : Int) = Y at *
      obtain ⟨u, huu⟩ : ∃ u, a % h = u := ⟨_, rfl⟩
      rw [huu] at r1 p2
      clear huu hZ hfirst hsize hu hno hno2 hbl hq hp8 q2 p2' hph hvk hC hB f6

      have z1' : ¬ size = 0 := by omega
      simp (maxSteps := 4000000) [List.getElem?_cons_zero, List.getElem?_cons_succ, -regionA_true, hh0, r1, p2]
      refine Post_bndR ⟨[(0, .agg [.int .i64 h, .int .i64 l, .int .i64 m, .int .i64 w]), (1, .sl .sh (d.map .u8)), (2, .int .i64 a), (3, .int .i64 b), (4, .lp 4 0), (8, .sl (.ex 5 1) []), (9, .int .i64 0), (10, .int .i64 size), (82, .bool (!decide (D = (m : Int))))], [(4, [.int .i64 h, .int .i64 l, .int .i64 m, .int .i64 w])], s⟩ ?_ ?_
      · skip
        refine bnd_reg [] _ (by rfl) (by simp (maxSteps := 4000000) [List.getElem?_cons_zero, List.getElem?_cons_succ, ]; exact rfl) ?_
        repeat (first
          | refine PostD_go _ (by rfl) (by rfl) (by simp (maxSteps := 4000000) [List.getElem?_cons_zero, List.getElem?_cons_succ, p1, z1', hdv, w3, z2, d2, w4]; exact rfl) (by first | exact .inl rfl | exact .inr rfl) (by rfl) ?_
          | refine PostD_no1 _ (by rfl) (by rfl) (by simp (maxSteps := 4000000) [List.getElem?_cons_zero, List.getElem?_cons_succ, ]; exact rfl) ?_)
        refine PostD_end ?_
        simp (maxSteps := 4000000) [List.getElem?_cons_zero, List.getElem?_cons_succ, ]
      by_cases c1 : D = m
      · by_cases c2 : (w : Int) < ((first + size : Nat) : Int)
        · rw [if_pos (.inr c2)] at hQ0
          generalize ((first + size : Nat) : Int) = E at *
          simp (maxSteps := 4000000) [List.getElem?_cons_zero, List.getElem?_cons_succ, c1, p1, z1', hdv, w3, z2, r2, w5, w6, c2, hQ0, Tryz.results21]
        · rw [if_neg (by rintro (q | q); exact q c1; exact c2 q)] at hQ0
          have hle : first + size ≤ w := by omega
          have hdl : d.length = 32 * w := by omega
          rw [hQ0]
          obtain ⟨en, hen⟩ : ∃ x, first + size = x := ⟨_, rfl⟩
          rw [hen] at w6 c2 hle
          simp (maxSteps := 4000000) [List.getElem?_cons_zero, List.getElem?_cons_succ, c1, p1, z1', hdv, w3, z2, r2, w5, w6, c2]
          refine Post_loop (I := fun j : Nat => ⟨[(1, .sl .sh (d.map .u8)), (10, .int .i64 size), (11, .int .i64 first), (12, .sl (.ex 35 1) (hs (chunks d first j))), (13, .int .i64 ((first + j : Nat) : Int))], [], s⟩)
            (Pr := fun j => j ≤ size) (μ := fun j => size - j) (a := 0) (by simp [chunks, hs]) (by simp) ?_
          intro j hj
          obtain ⟨i, hii⟩ : ∃ i, first + j = i := ⟨_, rfl⟩
          rw [hii]
          have w7 : IntKind.i64.wrap ((i : Int) + 1) = ((i + 1 : Nat) : Int) := by rw [wrap64 (by omega)]; omega
          by_cases hc : i < en
          · have hsx := chunks_succ d first j
            rw [hii] at hsx
            have w8 : IntKind.i64.wrap (32 * (i : Int)) = ((32 * i : Nat) : Int) := by rw [wrap64 (by omega)]; omega
            have w9 : IntKind.i64.wrap (((32 * i : Nat) : Int) + 32) = ((32 * i + 32 : Nat) : Int) := by rw [wrap64 (by omega)]; omega
            have hch : List.drop (32 * i) (List.take (32 * i + 32) (d.map AV.u8)) = (chunk d i).map AV.u8 := by
              rw [← List.map_take, ← List.map_drop]; congr 1
              unfold chunk
              rw [List.drop_take]; congr 1; omega
            obtain ⟨st, hst⟩ : ∃ x, 32 * i = x := ⟨_, rfl⟩
            rw [hst] at w8 w9 hch
            have hse : st ≤ st + 32 := by omega
            obtain ⟨ee, hee⟩ : ∃ x, st + 32 = x := ⟨_, rfl⟩
            rw [hee] at w9 hch hse
            have hel : ee ≤ d.length := by omega
            have hone : (1 : Nat) ≤ most := by unfold most; omega
            have hcl := chunks_len d first j
            have hmost : (chunks d first j).length + 1 ≤ most := by rw [hcl]; unfold most; omega
            have hsl : (hs (chunks d first j)).length = (chunks d first j).length := by simp [hs]
            have hsapp : ∀ x : List UInt8, hs (chunks d first j) ++ [AV.sl .sh (x.map .u8)] = hs (chunks d first j ++ [x]) := fun x => by simp [hs]
            obtain ⟨C, hC⟩ : ∃ C, chunks d first j = C := ⟨_, rfl⟩
            rw [hC] at hsx hmost hsl hsapp ⊢
            obtain ⟨HC, hHC⟩ : ∃ x, hs C = x := ⟨_, rfl⟩
            rw [hHC] at hsl hsapp ⊢
            simp (maxSteps := 4000000) [List.getElem?_cons_zero, List.getElem?_cons_succ, hc, w6, w7, w8, w9, hse, hel, hch, hsl, hmost]
            exact ⟨j + 1, by omega, by omega, by rw [hsx, ← hsapp], by omega⟩
          · obtain rfl : j = size := by omega
            have hH := rHash_eq _ (chunks d first j) rfl (by rw [chunks_len]; omega) (fun x hx => by
              unfold chunks at hx
              obtain ⟨y, _, rfl⟩ := List.mem_map.1 hx
              have := chunk_len d (first + y); omega)
            rw [hcw] at hH
            obtain ⟨HC, hHC⟩ : ∃ x, hs (chunks d first j) = x := ⟨_, rfl⟩
            rw [hHC] at hH ⊢
            simp (maxSteps := 4000000) [List.getElem?_cons_zero, List.getElem?_cons_succ, hc, w6, hH, Tryz.results21]
      · rw [if_pos (.inl c1)] at hQ0
        simp (maxSteps := 4000000) [List.getElem?_cons_zero, List.getElem?_cons_succ, c1, hQ0, Tryz.results21]
end Go.Proofs.Tryz.Ai
end
section
/- All tiles of a log: both sides. -/
namespace Go.Proofs.Tryz.Ai
open Go Go.AI Go.Proofs
set_option maxHeartbeats 8000000
set_option maxRecDepth 4000
set_option linter.unusedVariables false

def cntT (h n l : Nat) : Nat := (n / 2 ^ (h * l) + 2 ^ h - 1) / 2 ^ h
theorem cnt_lt (h n l k : Nat) : k < cntT h n l ↔ k * 2 ^ h < n / 2 ^ (h * l) := by
  have hp : 0 < 2 ^ h := Nat.two_pow_pos _
  unfold cntT
  have := Nat.le_div_iff_mul_le hp (x := k + 1) (y := n / 2 ^ (h * l) + 2 ^ h - 1)
  rw [Nat.add_mul, Nat.one_mul] at this
  generalize (n / 2 ^ (h * l) + 2 ^ h - 1) / 2 ^ h = C at *
  generalize k * 2 ^ h = X at *
  generalize n / 2 ^ (h * l) = D at *
  generalize 2 ^ h = P at *
  omega
theorem cnt_le (h n l : Nat) : cntT h n l ≤ n := by
  rcases Nat.lt_or_ge n (cntT h n l) with q | q
  · have h1 := (cnt_lt h n l n).1 q
    have h2 : n / 2 ^ (h * l) ≤ n := Nat.div_le_self _ _
    have h3 : n ≤ n * 2 ^ h := Nat.le_mul_of_pos_right _ (Nat.two_pow_pos _)
    omega
  · exact q
def rowTs (h n l c : Nat) : List AV := (List.range c).map fun k : Nat => tileA h l k (wideN h n l k)
theorem rowTs_succ (h n l c : Nat) : rowTs h n l (c + 1) = rowTs h n l c ++ [tileA h l c (wideN h n l c)] := by
  unfold rowTs; rw [List.range_succ, List.map_append]; rfl
theorem rowTs_len (h n l c : Nat) : (rowTs h n l c).length = c := by simp [rowTs]
def tilesN (h n j : Nat) : List AV := (List.range j).flatMap fun l => rowTs h n l (cntT h n l)
theorem tilesN_succ (h n j : Nat) : tilesN h n (j + 1) = tilesN h n j ++ rowTs h n j (cntT h n j) := by
  unfold tilesN; rw [List.range_succ, List.flatMap_append]; simp
theorem tilesN_len (h n j : Nat) : (tilesN h n j).length ≤ j * n := by
  induction j with
  | zero => simp [tilesN]
  | succ j ih =>
    rw [tilesN_succ, List.length_append, rowTs_len, Nat.succ_mul]
    have := cnt_le h n j
    omega
theorem tilesN_end (h n : Nat) (hh : 1 ≤ h) : ∀ d j, n / 2 ^ (h * j) = 0 → tilesN h n (j + d) = tilesN h n j := by
  intro d
  induction d with
  | zero => intro j _; rfl
  | succ d ih =>
    intro j hj
    have e : n / 2 ^ (h * (j + d)) = 0 := by
      have hp : 0 < 2 ^ (h * j) := Nat.two_pow_pos _
      have h1 : n < 2 ^ (h * j) := by
        rcases Nat.lt_or_ge n (2 ^ (h * j)) with q | q
        · exact q
        · have := Nat.div_pos q hp; omega
      have h2 : 2 ^ (h * j) ≤ 2 ^ (h * (j + d)) := Nat.pow_le_pow_right (by omega) (Nat.mul_le_mul_left _ (by omega))
      exact Nat.div_eq_of_lt (by omega)
    have hc : cntT h n (j + d) = 0 := by
      rcases Nat.eq_zero_or_pos (cntT h n (j + d)) with q | q
      · exact q
      · have := (cnt_lt h n (j + d) 0).1 q; rw [e] at this; omega
    rw [← Nat.add_assoc, tilesN_succ, hc, ih j hj]
    simp [rowTs]
theorem tilesN_all (h n j : Nat) (hh : 1 ≤ h) (hj : j ≤ 21) (h0 : n / 2 ^ (h * j) = 0) : tilesN h n j = tilesN h n 21 := by
  have := tilesN_end h n hh (21 - j) j h0
  rw [show j + (21 - j) = 21 by omega] at this
  exact this.symm
theorem tile_cells (h n l c : Nat) : allCells 4 (rowTs h n l c) := fun y hy => by
  obtain ⟨k, _, rfl⟩ := List.mem_map.1 hy
  exact ⟨rfl, fun c hc => by simp [tileA, AV.cells] at hc; rcases hc with rfl | rfl | rfl | rfl <;> rfl⟩
def tilesQ (h n : Int) : List AV × Int := if 1 ≤ h ∧ h ≤ 8 ∧ 0 ≤ n ∧ n ≤ 1048576 then (tilesN h.toNat n.toNat 21, 0) else ([], 6)
theorem Tiles_eq (h n : Int) (σ) : ev 24 [.int .i64 h, .int .i64 n] σ = some (.tup [.sl .sh (tilesQ h n).1, .int .i64 (tilesQ h n).2], σ) := by
  refine EV_post rfl Tryz.func24 rfl (by simp [Tryz.ntmps24]) (by kernel_rfl) (by kernel_rfl) ?_
  by_cases h1 : h < 1
  · have hQ : tilesQ h n = ([], 6) := by unfold tilesQ; rw [if_neg (by omega)]
    simp (maxSteps := 4000000) [List.getElem?_cons_zero, List.getElem?_cons_succ, h1, hQ, Tryz.results24]
  · by_cases h2 : 8 < h
    · have hQ : tilesQ h n = ([], 6) := by unfold tilesQ; rw [if_neg (by omega)]
      simp (maxSteps := 4000000) [List.getElem?_cons_zero, List.getElem?_cons_succ, h1, h2, hQ, Tryz.results24]
    · by_cases h3 : n < 0
      · have hQ : tilesQ h n = ([], 6) := by unfold tilesQ; rw [if_neg (by omega)]
        simp (maxSteps := 4000000) [List.getElem?_cons_zero, List.getElem?_cons_succ, h1, h2, h3, hQ, Tryz.results24]
      · by_cases h4 : 1048576 < n
        · have hQ : tilesQ h n = ([], 6) := by unfold tilesQ; rw [if_neg (by omega)]
          simp (maxSteps := 4000000) [List.getElem?_cons_zero, List.getElem?_cons_succ, h1, h2, h3, h4, hQ, Tryz.results24]
        · have hQ : tilesQ h n = (tilesN h.toNat n.toNat 21, 0) := by unfold tilesQ; rw [if_pos (by omega)]
          rw [hQ]
          obtain ⟨h, rfl⟩ := Int.eq_ofNat_of_zero_le (show 0 ≤ h by omega)
          obtain ⟨n, rfl⟩ := Int.eq_ofNat_of_zero_le (show 0 ≤ n by omega)
          simp only [Int.toNat_natCast]
          have h1' : ¬ h < 1 := by omega
          have h2' : ¬ 8 < h := by omega
          have h4' : ¬ 1048576 < n := by omega
          have hbt : IntKind.i64.bits = 64 := rfl
          have hn1 : ¬ (h : Int) < 0 := by omega
          have m1 : min h 64 = h := by omega
          have hp8 := pow8 (h := h) (by omega)
          have hTl := tilesN_len h n
          simp (maxSteps := 4000000) [List.getElem?_cons_zero, List.getElem?_cons_succ, h1', h2', h4']
          refine Post_loop (I := fun l : Nat => ⟨[(0, .int .i64 h), (1, .int .i64 n), (6, .sl (.ex 31 4) (tilesN h n l)), (7, .int .i64 l)], [], σ⟩) (Pr := fun l => l ≤ 21) (μ := fun l => 21 - l) (a := 0) (by simp [tilesN]) (by simp) ?_
          intro l hl
          have hhl : h * l ≤ 8 * 21 := Nat.mul_le_mul (by omega) hl
          have w1 : IntKind.i64.wrap ((h : Int) * l) = ((h * l : Nat) : Int) := by
            rw [← Int.natCast_mul]; generalize h * l = G at *; exact wrap64 (by omega)
          have hf : (n : Int).fdiv (2 ^ min (h * l) 64) = ((n / 2 ^ (h * l) : Nat) : Int) := by
            rw [fdiv_pow]
            by_cases q : h * l ≤ 64
            · rw [show min (h * l) 64 = h * l by omega]
            · rw [show min (h * l) 64 = 64 by omega, Nat.div_eq_of_lt (show n < 2 ^ 64 by omega)]
              rw [Nat.div_eq_of_lt]
              have : 2 ^ 64 ≤ 2 ^ (h * l) := Nat.pow_le_pow_right (by omega) (by omega)
              omega
          have hn2 : ¬ ((h * l : Nat) : Int) < 0 := by generalize h * l = G; omega
          have w2 : IntKind.i64.wrap ((l : Int) + 1) = (l : Int) + 1 := wrap64 (by omega)
          have hall := tilesN_all h n l (by omega) hl
          have hcl := cnt_lt h n l
          have hce := cnt_le h n l
          have hwd := fun (k : Nat) (hk : k < cntT h n l) => wide_eq h n l k (by omega) (by omega) (by omega) (by omega)
          have hlz : l = 21 → n / 2 ^ (h * l) = 0 := fun e => by
            refine Nat.div_eq_of_lt ?_
            have : 2 ^ 21 ≤ 2 ^ (h * l) := Nat.pow_le_pow_right (by omega) (by rw [e]; have := Nat.mul_le_mul_right 21 (show 1 ≤ h by omega); omega)
            omega
          have hsx := tilesN_succ h n l
          have hTll := hTl l
          have hln : l * n ≤ 21 * 1048576 := Nat.mul_le_mul hl (by omega)
          obtain ⟨D, hD⟩ : ∃ D, n / 2 ^ (h * l) = D := ⟨_, rfl⟩
          rw [hD] at hf hall hlz
          simp only [hD] at hcl
          obtain ⟨G, hG⟩ : ∃ G, h * l = G := ⟨_, rfl⟩
          rw [hG] at w1 hf hn2
          obtain ⟨c, hc⟩ : ∃ c, cntT h n l = c := ⟨_, rfl⟩
          rw [hc] at hsx hce hwd
          simp only [hc] at hcl
          by_cases hz : 0 < D
          · simp (maxSteps := 4000000) [List.getElem?_cons_zero, List.getElem?_cons_succ, w1, hf, hn2, hbt, hz]
            refine Post_loop (I := fun k : Nat => ⟨[(0, .int .i64 h), (1, .int .i64 n), (6, .sl (.ex 31 4) (tilesN h n l ++ rowTs h n l k)), (7, .int .i64 l), (8, .int .i64 k)], [], σ⟩) (Pr := fun k => k ≤ c) (μ := fun k => c - k) (a := 0) (by simp [rowTs]) (by simp) ?_
            intro k hk
            have hkp : k * 2 ^ h ≤ 1048576 * 256 := Nat.mul_le_mul (by omega) hp8
            have w3 : IntKind.i64.wrap ((k : Int) * 2 ^ h) = ((k * 2 ^ h : Nat) : Int) := by
              rw [show (k : Int) * 2 ^ h = ((k * 2 ^ h : Nat) : Int) by simp]
              generalize k * 2 ^ h = X at *
              exact wrap64 (by omega)
            have hck := hcl k
            have w4 : IntKind.i64.wrap ((k : Int) + 1) = (k : Int) + 1 := wrap64 (by omega)
            obtain ⟨X, hX⟩ : ∃ X, k * 2 ^ h = X := ⟨_, rfl⟩
            rw [hX] at w3 hck
            by_cases hkc : k < c
            · have hXD := hck.1 hkc
              have hw := hwd k hkc
              have hrs := rowTs_succ h n l k
              have hrl := rowTs_len h n l k
              have hmost : (tilesN h n l).length + (rowTs h n l k).length + 1 ≤ most := by rw [hrl]; unfold most; omega
              obtain ⟨wd, hwdd⟩ : ∃ x, wideN h n l k = x := ⟨_, rfl⟩
              rw [hwdd] at hw hrs
              simp only [tileA] at hw hrs
              obtain ⟨A, hA⟩ : ∃ A, tilesN h n l = A := ⟨_, rfl⟩
              obtain ⟨R, hR⟩ : ∃ R, rowTs h n l k = R := ⟨_, rfl⟩
              rw [hA, hR] at hmost ⊢
              rw [hR] at hrs
              simp (maxSteps := 4000000) [List.getElem?_cons_zero, List.getElem?_cons_succ, m1, hbt, hn1, w3, w1, hn2, hf, hXD, hw, hmost, w4]
              exact ⟨k + 1, by omega, by omega, by rw [hrs], by simp⟩
            · have hXD : ¬ X < D := fun q => hkc (hck.2 q)
              obtain rfl : k = c := by omega
              simp (maxSteps := 4000000) [List.getElem?_cons_zero, List.getElem?_cons_succ, m1, hbt, hn1, w3, w1, hn2, hf, hXD, w2]
              have hl20 : l < 21 := by
                rcases Nat.lt_or_ge l 21 with q | q
                · exact q
                · have := hlz (by omega); omega
              exact ⟨l + 1, by omega, by omega, by rw [hsx], by simp⟩
          · have hD0 : D = 0 := by omega
            have hA := hall hD0
            simp (maxSteps := 4000000) [List.getElem?_cons_zero, List.getElem?_cons_succ, w1, hf, hn2, hbt, hz, hA, Tryz.results24]
theorem rTiles_eq (h n : Int) (σ) : ev 25 [.int .i64 h, .int .i64 n] σ = some (.tup [.sl .sh (tilesQ h n).1, .int .i64 (tilesQ h n).2], σ) := by
  refine EV_post rfl Tryz.func25 rfl (by simp [Tryz.ntmps25]) (by kernel_rfl) (by kernel_rfl) ?_
  by_cases h1 : h < 1
  · have hQ : tilesQ h n = ([], 6) := by unfold tilesQ; rw [if_neg (by omega)]
    simp (maxSteps := 4000000) [List.getElem?_cons_zero, List.getElem?_cons_succ, h1, hQ, Tryz.results25]
  · by_cases h2 : 8 < h
    · have hQ : tilesQ h n = ([], 6) := by unfold tilesQ; rw [if_neg (by omega)]
      simp (maxSteps := 4000000) [List.getElem?_cons_zero, List.getElem?_cons_succ, h1, h2, hQ, Tryz.results25]
    · by_cases h3 : n < 0
      · have hQ : tilesQ h n = ([], 6) := by unfold tilesQ; rw [if_neg (by omega)]
        simp (maxSteps := 4000000) [List.getElem?_cons_zero, List.getElem?_cons_succ, h1, h2, h3, hQ, Tryz.results25]
      · by_cases h4 : 1048576 < n
        · have hQ : tilesQ h n = ([], 6) := by unfold tilesQ; rw [if_neg (by omega)]
          simp (maxSteps := 4000000) [List.getElem?_cons_zero, List.getElem?_cons_succ, h1, h2, h3, h4, hQ, Tryz.results25]
        · have hQ : tilesQ h n = (tilesN h.toNat n.toNat 21, 0) := by unfold tilesQ; rw [if_pos (by omega)]
          rw [hQ]
          obtain ⟨h, rfl⟩ := Int.eq_ofNat_of_zero_le (show 0 ≤ h by omega)
          obtain ⟨n, rfl⟩ := Int.eq_ofNat_of_zero_le (show 0 ≤ n by omega)
          simp only [Int.toNat_natCast]
          have h1' : ¬ h < 1 := by omega
          have h2' : ¬ 8 < h := by omega
          have h4' : ¬ 1048576 < n := by omega
          have hp8 := pow8 (h := h) (by omega)
          have hTl := tilesN_len h n
          have p1 := Power_eq h (by omega)
          obtain ⟨P, hP⟩ : ∃ P, 2 ^ h = P := ⟨_, rfl⟩
          simp (maxSteps := 4000000) [List.getElem?_cons_zero, List.getElem?_cons_succ, h1', h2', h4']
          refine Post_loop (I := fun l : Nat => ⟨[(0, .int .i64 h), (1, .int .i64 n), (6, .sl (.ex 46 4) (tilesN h n l)), (7, .int .i64 l)], [], σ⟩) (Pr := fun l => l ≤ 21) (μ := fun l => 21 - l) (a := 0) (by simp [tilesN]) (by simp) ?_
          intro l hl
          have hhl : h * l ≤ 8 * 21 := Nat.mul_le_mul (by omega) hl
          have hll : l ≤ h * l := Nat.le_mul_of_pos_left _ (by omega)
          have w1 : IntKind.i64.wrap ((h : Int) * l) = ((h * l : Nat) : Int) := by
            rw [← Int.natCast_mul]; generalize h * l = G at *; exact wrap64 (by omega)
          have w2 : IntKind.i64.wrap ((l : Int) + 1) = (l : Int) + 1 := wrap64 (by omega)
          have hall := tilesN_all h n l (by omega) hl
          have hcl := cnt_lt h n l
          have hce := cnt_le h n l
          have hsx := tilesN_succ h n l
          have hTll := hTl l
          have hln : l * n ≤ 21 * 1048576 := Nat.mul_le_mul hl (by omega)
          have hq : 0 < 2 ^ (h * l) := Nat.two_pow_pos _
          have hnd : n / 2 ^ (h * l) ≤ n := Nat.div_le_self _ _
          have d1 : (n : Int).tdiv ((2 ^ (h * l) : Nat) : Int) = ((n / 2 ^ (h * l) : Nat) : Int) := by rw [Int.tdiv_eq_ediv_of_nonneg (by omega)]; simp
          have hbig : 20 < h * l → n / 2 ^ (h * l) = 0 := fun e => by
            refine Nat.div_eq_of_lt ?_
            have : 2 ^ 21 ≤ 2 ^ (h * l) := Nat.pow_le_pow_right (by omega) (by omega)
            omega
          have p2 : h * l ≤ 20 → ∀ σ, ev 61 [.int .i64 ((h * l : Nat) : Int)] σ = some (.int .i64 ((2 ^ (h * l) : Nat) : Int), σ) := fun q σ => Power_eq (h * l) (by omega) σ
          have hwn : ∀ k : Nat, wideN h n l k = if ((n / 2 ^ (h * l) : Nat) : Int) - ((k * 2 ^ h : Nat) : Int) < ((2 ^ h : Nat) : Int) then ((n / 2 ^ (h * l) : Nat) : Int) - ((k * 2 ^ h : Nat) : Int) else ((2 ^ h : Nat) : Int) := fun k => rfl
          obtain ⟨D, hD⟩ : ∃ D, n / 2 ^ (h * l) = D := ⟨_, rfl⟩
          rw [hD] at hall hbig d1 hnd
          simp only [hD] at hcl hwn
          obtain ⟨Q, hQQ⟩ : ∃ Q : Int, ((2 ^ (h * l) : Nat) : Int) = Q := ⟨_, rfl⟩
          have hQ0 : ¬ Q = 0 := by rw [← hQQ]; omega
          simp only [hQQ] at p2 d1
          have w0 : IntKind.i64.wrap (D : Int) = (D : Int) := wrap64 (by omega)
          obtain ⟨c, hc⟩ : ∃ c, cntT h n l = c := ⟨_, rfl⟩
          rw [hc] at hsx hce
          simp only [hc] at hcl
          simp only [hP] at hcl hwn p1 hp8
          obtain ⟨G, hG⟩ : ∃ G, h * l = G := ⟨_, rfl⟩
          rw [hG] at w1 hbig hll
          simp only [hG] at p2
          clear hq hQQ hD hG
          by_cases hz : G ≤ 20
          · have p2' := p2 hz
            simp (maxSteps := 4000000) [List.getElem?_cons_zero, List.getElem?_cons_succ, w1, hz, p2', hQ0, d1, w0]
            refine Post_loop (I := fun k : Nat => ⟨[(0, .int .i64 h), (1, .int .i64 n), (6, .sl (.ex 46 4) (tilesN h n l ++ rowTs h n l k)), (7, .int .i64 l), (8, .int .i64 D), (9, .int .i64 k)], [], σ⟩) (Pr := fun k => k ≤ c) (μ := fun k => c - k) (a := 0) (by simp [rowTs]) (by simp) ?_
            intro k hk
            have hkp : k * P ≤ 1048576 * 256 := Nat.mul_le_mul (by omega) hp8
            have w3 : IntKind.i64.wrap ((k : Int) * (P : Int)) = ((k * P : Nat) : Int) := by
              rw [← Int.natCast_mul]
              generalize k * P = X at *
              exact wrap64 (by omega)
            have hck := hcl k
            have hwk := hwn k
            have w4 : IntKind.i64.wrap ((k : Int) + 1) = (k : Int) + 1 := wrap64 (by omega)
            obtain ⟨X, hX⟩ : ∃ X, k * P = X := ⟨_, rfl⟩
            rw [hX] at w3 hck hwk hkp
            by_cases hkc : k < c
            · have hXD := hck.1 hkc
              have hrs := rowTs_succ h n l k
              have hrl := rowTs_len h n l k
              have w5 : IntKind.i64.wrap ((D : Int) - (X : Int)) = (D : Int) - (X : Int) := wrap64 (by omega)
              have hmin : (if (P : Int) < (D : Int) - (X : Int) then (P : Int) else (D : Int) - (X : Int)) = wideN h n l k := by
                rw [hwk]; split <;> split <;> omega
              have hmost : (tilesN h n l).length + (rowTs h n l k).length + 1 ≤ most := by rw [hrl]; unfold most; omega
              obtain ⟨wd, hwdd⟩ : ∃ x, wideN h n l k = x := ⟨_, rfl⟩
              rw [hwdd] at hmin hrs
              simp only [tileA] at hrs
              obtain ⟨A, hA⟩ : ∃ A, tilesN h n l = A := ⟨_, rfl⟩
              obtain ⟨R, hR⟩ : ∃ R, rowTs h n l k = R := ⟨_, rfl⟩
              rw [hA, hR] at hmost ⊢
              rw [hR] at hrs
              simp (maxSteps := 4000000) [List.getElem?_cons_zero, List.getElem?_cons_succ, p1, w3, hXD, w5, hmin, hmost, w4]
              exact ⟨k + 1, by omega, by omega, by rw [hrs], by simp⟩
            · have hXD : ¬ X < D := fun q => hkc (hck.2 q)
              obtain rfl : k = c := by omega
              simp (maxSteps := 4000000) [List.getElem?_cons_zero, List.getElem?_cons_succ, p1, w3, hXD, w2]
              exact ⟨l + 1, by omega, by omega, by rw [hsx], by simp⟩
          · have hA := hall (hbig (by omega))
            simp (maxSteps := 4000000) [List.getElem?_cons_zero, List.getElem?_cons_succ, w1, hz, hA, Tryz.results25]
end Go.Proofs.Tryz.Ai
end
section
/- A hash is found in its tile: plain. -/
namespace Go.Proofs.Tryz.Ai
open Go Go.AI Go.Proofs
set_option maxHeartbeats 1000000
set_option linter.unusedVariables false

section
variable {α : Type} {node : α → α → α}
theorem wholeT_congr {L L' : Nat → α} (u : Nat) : ∀ q q', (∀ j, j < 2 ^ u → L (q * 2 ^ u + j) = L' (q' * 2 ^ u + j)) → wholeT node L u q = wholeT node L' u q' := by
  induction u with
  | zero => intro q q' h; have := h 0 (by simp); simpa [wholeT] using this
  | succ u ih =>
    intro q q' h
    rw [wholeT, wholeT]
    have e : 2 ^ (u + 1) = 2 ^ u + 2 ^ u := by rw [Nat.pow_succ]; omega
    have m1 : ∀ z : Nat, z * 2 ^ (u + 1) = 2 * z * 2 ^ u := fun z => by rw [Nat.pow_succ, Nat.mul_comm (2 ^ u) 2, ← Nat.mul_assoc, Nat.mul_comm z 2]
    rw [m1 q, m1 q'] at h
    congr 1
    · exact ih (2 * q) (2 * q') fun j hj => h j (by omega)
    · refine ih (2 * q + 1) (2 * q' + 1) fun j hj => ?_
      have := h (2 ^ u + j) (by omega)
      rw [Nat.add_mul, Nat.one_mul, Nat.add_mul, Nat.one_mul, Nat.add_assoc, Nat.add_assoc]; exact this
/-- whole trees of whole trees -/
theorem wholeT_two (L : Nat → α) (g u : Nat) : ∀ q, wholeT node (wholeT node L g) u q = wholeT node L (g + u) q := by
  induction u with
  | zero => intro q; rfl
  | succ u ih => intro q; rw [wholeT, ih, ih, ← Nat.add_assoc, wholeT]
end
theorem wholeT_32 (L : Nat → List UInt8) (g k : Nat) (h : ∀ i, i < 2 ^ g → (L (k * 2 ^ g + i)).length = 32) : (wholeT nodeB L g k).length = 32 := by
  cases g with
  | zero => have := h 0 (by simp); simpa [wholeT] using this
  | succ g => rw [wholeT]; exact nodeB_len _ _
theorem leafF_32 {LB : List (List UInt8)} (hsm : ∀ x ∈ LB, x.length = 32) {i : Nat} (h : i < LB.length) : (leafF LB i).length = 32 := by
  unfold leafF
  rw [List.getD_eq_getElem?_getD, List.getElem?_eq_getElem h]
  exact hsm _ (List.getElem_mem h)
theorem level_32 {LB : List (List UInt8)} (hsm : ∀ x ∈ LB, x.length = 32) {g k : Nat} (h : (k + 1) * 2 ^ g ≤ LB.length) : (wholeT nodeB (leafF LB) g k).length = 32 :=
  wholeT_32 _ g k fun i hi => leafF_32 hsm (by rw [Nat.add_mul, Nat.one_mul] at h; omega)
theorem tileBs_32 {LB : List (List UInt8)} (hsm : ∀ x ∈ LB, x.length = 32) (g f : Nat) : ∀ w, (f + w) * 2 ^ g ≤ LB.length → (tileBs LB g f w).length = 32 * w := by
  intro w
  induction w with
  | zero => intro _; rfl
  | succ w ih =>
    intro h
    have h1 : (f + w) * 2 ^ g ≤ LB.length := Nat.le_trans (Nat.mul_le_mul_right _ (by omega)) h
    rw [tileBs_succ, List.length_append, ih h1, level_32 hsm (by rw [Nat.add_assoc]; exact h)]; omega
theorem tileBs_split (LB : List (List UInt8)) (g f a b : Nat) : tileBs LB g f (a + b) = tileBs LB g f a ++ tileBs LB g (f + a) b := by
  induction b with
  | zero => simp [tileBs]
  | succ b ih => rw [← Nat.add_assoc, tileBs_succ, ih, tileBs_succ, List.append_assoc, Nat.add_assoc]
/-- each hash stands at its place -/
theorem chunk_tile {LB : List (List UInt8)} (hsm : ∀ x ∈ LB, x.length = 32) (g f w j : Nat) (hw : (f + w) * 2 ^ g ≤ LB.length) (hj : j < w) : chunk (tileBs LB g f w) j = wholeT nodeB (leafF LB) g (f + j) := by
  have h1 : (f + j) * 2 ^ g ≤ LB.length := Nat.le_trans (Nat.mul_le_mul_right _ (by omega)) hw
  have h2 : (f + j + 1) * 2 ^ g ≤ LB.length := Nat.le_trans (Nat.mul_le_mul_right _ (by omega)) hw
  obtain ⟨r, rfl⟩ : ∃ r, w = j + 1 + r := ⟨w - (j + 1), by omega⟩
  rw [tileBs_split, tileBs_succ]
  have e1 := tileBs_32 hsm g f j h1
  have e2 := level_32 hsm h2
  unfold chunk
  rw [List.append_assoc, List.drop_left' e1, List.take_left' e2]
/-- the tile of a hash -/
structure TileAt (n h v k : Nat) : Prop where
  h1 : 1 ≤ h
  h8 : h ≤ 8
  n2 : n ≤ 1048576
  v2 : v ≤ 20
  k2 : (k + 1) * 2 ^ v ≤ n
theorem split_k (k u h : Nat) (hu : u ≤ h) : k * 2 ^ u = k / 2 ^ (h - u) * 2 ^ h + k % 2 ^ (h - u) * 2 ^ u := by
  have e : 2 ^ h = 2 ^ (h - u) * 2 ^ u := by rw [← Nat.pow_add]; congr 1; omega
  rw [e, ← Nat.mul_assoc, ← Nat.add_mul, Nat.mul_comm (k / 2 ^ (h - u)), Nat.div_add_mod]
theorem tileN_div (h v k : Nat) (hh : 1 ≤ h) : tileN h v k = k / 2 ^ (h - v % h) := by
  unfold tileN
  have hu : v % h ≤ h := Nat.le_of_lt (Nat.mod_lt _ (by omega))
  have e : 2 ^ h = 2 ^ (h - v % h) * 2 ^ (v % h) := by rw [← Nat.pow_add]; congr 1; omega
  rw [e, Nat.mul_div_mul_right _ _ (Nat.two_pow_pos _)]
/-- how wide it is, and where the hash stands in it -/
theorem TileAt.wide {n h v k : Nat} (t : TileAt n h v k) : ∃ w : Nat, wideN h n (v / h) (tileN h v k) = w ∧ w ≤ 2 ^ h ∧ k % 2 ^ (h - v % h) * 2 ^ (v % h) + 2 ^ (v % h) ≤ w ∧ (tileN h v k * 2 ^ h + w) * 2 ^ (h * (v / h)) ≤ n ∧ h * (v / h) ≤ 20 ∧ tileN h v k ≤ 1048576 := by
  obtain ⟨h1, h8, n2, v2, k2⟩ := t
  have hu : v % h < h := Nat.mod_lt _ (by omega)
  have hg : h * (v / h) + v % h = v := Nat.div_add_mod v h
  have hN := tileN_le h v k n h1 k2 n2
  have hs := split_k k (v % h) h (by omega)
  rw [← tileN_div h v k h1] at hs
  have hp : 0 < 2 ^ (h * (v / h)) := Nat.two_pow_pos _
  have hD : (k + 1) * 2 ^ (v % h) ≤ n / 2 ^ (h * (v / h)) := by
    rw [Nat.le_div_iff_mul_le hp, Nat.mul_assoc, ← Nat.pow_add, Nat.add_comm (v % h), hg]; exact k2
  rw [Nat.add_mul, Nat.one_mul] at hD
  have hq : k % 2 ^ (h - v % h) * 2 ^ (v % h) + 2 ^ (v % h) ≤ 2 ^ h := by
    have e : 2 ^ h = 2 ^ (h - v % h) * 2 ^ (v % h) := by rw [← Nat.pow_add]; congr 1; omega
    have hm : k % 2 ^ (h - v % h) + 1 ≤ 2 ^ (h - v % h) := Nat.mod_lt _ (Nat.two_pow_pos _)
    have := Nat.mul_le_mul_right (2 ^ (v % h)) hm
    rw [Nat.add_mul, Nat.one_mul] at this
    rw [e]; exact this
  have hmul : n / 2 ^ (h * (v / h)) * 2 ^ (h * (v / h)) ≤ n := Nat.div_mul_le_self _ _
  have hg20 : h * (v / h) ≤ 20 := by omega
  have hN2 := hN.2
  have hle : ∀ w, tileN h v k * 2 ^ h + w ≤ n / 2 ^ (h * (v / h)) → (tileN h v k * 2 ^ h + w) * 2 ^ (h * (v / h)) ≤ n := fun w hw => Nat.le_trans (Nat.mul_le_mul_right _ hw) hmul
  unfold wideN
  generalize (k % 2 ^ (h - v % h)) * 2 ^ (v % h) = first at *
  generalize 2 ^ (v % h) = size at *
  generalize tileN h v k * 2 ^ h = X at *
  generalize n / 2 ^ (h * (v / h)) = D at *
  generalize 2 ^ h = P at *
  clear hmul hg hp hu
  by_cases c : ((D : Nat) : Int) - ((X : Nat) : Int) < ((P : Nat) : Int)
  · rw [if_pos c]
    exact ⟨D - X, by omega, by omega, by omega, hle _ (by omega), hg20, hN2⟩
  · rw [if_neg c]
    exact ⟨P, rfl, by omega, by omega, hle _ (by omega), hg20, hN2⟩
theorem TileAt.isTile {n h v k : Nat} (t : TileAt n h v k) : tileP n h (v / h : Nat) (tileN h v k) (wideN h n (v / h) (tileN h v k)) := by
  obtain ⟨w, e, w1, w2, w3, w4, w5⟩ := t.wide
  have hp : 0 < 2 ^ (v % h) := Nat.two_pow_pos _
  rw [e, tileP_num]
  have hl : v / h ≤ 20 := Nat.le_trans (Nat.div_le_self _ _) t.v2
  have hm : ((h : Int) * ((v / h : Nat) : Int)) = ((h * (v / h) : Nat) : Int) := by rw [← Int.natCast_mul]
  refine ⟨?_, ?_⟩
  · unfold numP
    rw [hm, Int.toNat_natCast]
    have := t.h1
    have := t.h8
    generalize h * (v / h) = G at *
    generalize v / h = M at *
    generalize 2 ^ h = P at *
    omega
  · rw [hm]; simp only [Int.toNat_natCast]; exact w3
/-- and the hash is told -/
theorem TileAt.told {LB : List (List UInt8)} {h v k : Nat} (t : TileAt LB.length h v k) (hsm : ∀ x ∈ LB, x.length = 32) :
    inTileQ h (v / h : Nat) (tileN h v k) (wideN h LB.length (v / h) (tileN h v k)) (bytesQ LB h (v / h : Nat) (tileN h v k) (wideN h LB.length (v / h) (tileN h v k))).1 v k = (wholeT nodeB (leafF LB) v k, 0) ∧
    (bytesQ LB h (v / h : Nat) (tileN h v k) (wideN h LB.length (v / h) (tileN h v k))).2 = 0 := by
  have hT := t.isTile
  obtain ⟨w, e, w1, w2, w3, w4, w5⟩ := t.wide
  have hB : bytesQ LB h (v / h : Nat) (tileN h v k) (wideN h LB.length (v / h) (tileN h v k)) = (tileBs LB (h * (v / h)) (tileN h v k * 2 ^ h) w, 0) := by
    unfold bytesQ
    rw [if_pos hT, e]
    simp only [Int.toNat_natCast, ← Int.natCast_mul]
  rw [hB, e]
  refine ⟨?_, rfl⟩
  simp only
  have hlen := tileBs_32 hsm (h * (v / h)) (tileN h v k * 2 ^ h) w w3
  rw [e] at hT
  have hu : v % h < h := Nat.mod_lt _ (by have := t.h1; omega)
  have hg : h * (v / h) + v % h = v := Nat.div_add_mod v h
  unfold inTileQ
  rw [if_neg (by rw [hlen]; intro q; exact q ⟨hT.1, by omega⟩), if_neg (by simp only [Int.toNat_natCast]; omega), if_neg]
  · simp only [Int.toNat_natCast]
    congr 1
    have hs := split_k k (v % h) h (by omega)
    rw [← tileN_div h v k t.h1] at hs
    rw [← hg, ← wholeT_two (leafF LB) (h * (v / h)) (v % h) k, hg]
    refine wholeT_congr (v % h) _ _ fun j hj => ?_
    rw [chunk_tile hsm _ _ w _ w3 (by omega), ← Nat.add_assoc, ← hs]
  · simp only [Int.toNat_natCast]
    rw [tileN_div h v k t.h1]
    rintro (q | q)
    · exact q rfl
    · omega
end Go.Proofs.Tryz.Ai
end
