/- Part 8 of a proof: a Go function is evaluated on abstract values (texts LTiled .. FTiled); no conditions beyond those of each theorem. -/
import Derived.Test.YtmikahmnomfacaaGreatDoorAi7
import Derived.Test.YtmikahmnomfacaaGreatDoorRows
import Derived.Test.YtmikahmnomfacaaGreatDoorCards
import Derived.Test.YtmikahmnomfacaaGreatDoorTie
import Derived.WalkKit
import Derived.ProofKit
import Derived.OpenShut
import Derived.Below
import Derived.ChangeOld
import Derived.Deep.DeepHandedRow
import Derived.Lib.LaidTab
import Derived.Lay
import Derived.MakeChecks
set_option linter.all false
set_option linter.unusedVariables false
set_option linter.unusedSimpArgs false
set_option linter.unnecessarySimpa false
section
/- TlogTiled: the evaluation. -/
namespace Go.Proofs.Tryz.Ai
open Go Go.AI Go.Proofs
set_option maxHeartbeats 4000000
set_option maxRecDepth 4000
set_option linter.unusedVariables false

theorem tmod_in (i : Int) (n : Nat) (h : 0 < n) (hn : n ≤ 2 ^ 30) : ∃ k : Nat, k < n ∧ (IntKind.i64.wrap (i.tmod n + n)).tmod n = (k : Int) := by
  have h1 := Int.tmod_lt_of_pos i (b := n) (by omega)
  have h2 : -(n : Int) < i.tmod n := by
    have := Int.tmod_lt_of_pos (-i) (b := n) (by omega)
    rw [Int.neg_tmod] at this; omega
  rw [wrap64 (by omega), Int.tmod_eq_emod_of_nonneg (by omega)]
  have h3 := Int.emod_nonneg (i.tmod n + n) (b := n) (by omega)
  have h4 := Int.emod_lt_of_pos (i.tmod n + n) (b := n) (by omega)
  exact ⟨((i.tmod n + n) % n).toNat, by omega, by omega⟩
theorem tiledLaw_eq (l : List (List UInt8)) (H L K : Int) (h : l.length ≤ 1048576 ∧ ∀ s ∈ l, s.length ≤ 1048576) (σ0 : List (List AV)) : ev 4 [.sl .sh (hs l), .int .i64 H, .int .i64 L, .int .i64 K] [] = some (.bool true, []) := by
  obtain ⟨σ, hσ⟩ : ∃ σ : List (List AV), σ = [] := ⟨_, rfl⟩
  rw [← hσ]
  have hF := first_eq
  obtain ⟨b, hfew, hb⟩ := few_eq l (by omega) (fun x hx => by have := h.2 x hx; omega) σ
  have hHl : (hs l).length = l.length := by simp [hs]
  refine EV_post rfl Tryz.func4 rfl (by simp [Tryz.ntmps4]) (by kernel_rfl) (by kernel_rfl) ?_
  cases b with
  | false =>
    generalize hs l = HS at *
    simp (maxSteps := 4000000) [List.getElem?_cons_zero, List.getElem?_cons_succ, hF, hfew, Tryz.results4]
  | true =>
    by_cases hz : l.length = 0
    · generalize hs l = HS at *
      simp (maxSteps := 4000000) [List.getElem?_cons_zero, List.getElem?_cons_succ, hF, hfew, hHl, hz, Tryz.results4]
    · have hb' := hb rfl
      obtain ⟨s, p, q, hM, hlog, hpre, hlen, hp, hq⟩ := made_of l (by omega) (fun x hx => by have := h.2 x hx; omega) σ
      obtain ⟨LB, hLB⟩ : ∃ LB, l.map leafB = LB := ⟨_, rfl⟩
      rw [hLB] at hM hlog
      have hLBl : LB.length = l.length := by rw [← hLB]; simp
      obtain ⟨n, hn⟩ : ∃ n, l.length = n := ⟨_, rfl⟩
      rw [hn] at hLBl hz hHl hb'
      obtain ⟨h0, hh0, hhm0⟩ := tmod_in H 8 (by omega) (by omega)
      have hhm : (IntKind.i64.wrap (H.tmod 8 + 8)).tmod 8 = (h0 : Int) := hhm0
      obtain ⟨v, hv, hvm0⟩ := tmod_in L 7 (by omega) (by omega)
      have hvm : (IntKind.i64.wrap (L.tmod 7 + 7)).tmod 7 = (v : Int) := hvm0
      obtain ⟨k, hk, hkm0⟩ := tmod_in K 70 (by omega) (by omega)
      have hkm : (IntKind.i64.wrap (K.tmod 70 + 70)).tmod 70 = (k : Int) := hkm0
      have w1 : IntKind.i64.wrap ((h0 : Int) + 1) = ((h0 + 1 : Nat) : Int) := by rw [wrap64 (by omega)]; omega
      obtain ⟨x, hx⟩ : ∃ x, h0 + 1 = x := ⟨_, rfl⟩
      rw [hx] at w1
      have hH := hlog.hash v k
      have hN : ∀ n σ, ev 12 [.int .i64 n] σ = some (.int .i64 n, σ) := fun n σ => Num_eq n σ
      have hsm := hlog.small
      have hlow : lowS σ s := by subst hσ; intro b hb; simp at hb
      have htk : s.take σ.length = σ := by subst hσ; simp
      by_cases hc : (k + 1) * 2 ^ v ≤ n
      · have t : TileAt LB.length x v k := ⟨by omega, by omega, by omega, by omega, by rw [hLBl]; exact hc⟩
        have hT := TileOf_yes x n v k (by omega) (by omega) (by omega) (by omega) hc
        obtain ⟨told, tb⟩ := t.told hsm
        have hTile := t.isTile
        have hBy := hlog.bytes x (v / x : Nat) (tileN x v k) (wideN x LB.length (v / x) (tileN x v k))
        obtain ⟨w, hw, w2, w3, w4, w5, w6⟩ := t.wide
        have hlh : lhashQ LB v k = some (wholeT nodeB (leafF LB) v k) := by
          unfold lhashQ; rw [if_pos (by rw [hLBl]; simp only [Int.toNat_natCast]; exact ⟨by omega, by omega, hc⟩)]; rfl
        have hQ2 : (inTileQ x (v / x : Nat) (tileN x v k) (wideN x LB.length (v / x) (tileN x v k)) (bytesQ LB x (v / x : Nat) (tileN x v k) (wideN x LB.length (v / x) (tileN x v k))).1 v k) = (wholeT nodeB (leafF LB) v k, 0) := told
        rw [hlh] at hH
        simp only [lookA] at hH
        rw [hLBl] at hQ2 hTile hBy hw tb
        rw [hw] at hQ2 hTile hBy hT tb
        obtain ⟨⟨BB, be⟩, hBB⟩ : ∃ y, bytesQ LB x (v / x : Nat) (tileN x v k) w = y := ⟨_, rfl⟩
        rw [hBB] at hBy hQ2 tb
        simp only at hQ2 tb hBy
        subst tb
        have hTn := (tileP_num n x (v / x : Nat) (tileN x v k) w).1 hTile
        have htile2 : tileP 1048576 x (v / x : Nat) (tileN x v k) w := (tileP_num _ _ _ _ _).2 ⟨hTn.1, by omega⟩
        obtain ⟨b1, b2, b3, b4, b5, b6, b7⟩ := tile_bound htile2
        have hBl : BB.length ≤ 2 ^ 30 := by
          have e1 : bytesQ LB x (v / x : Nat) (tileN x v k) w = (tileBs LB (x * (v / x)) (tileN x v k * 2 ^ x) w, 0) := by
            unfold bytesQ
            rw [hLBl, if_pos hTile]
            simp only [Int.toNat_natCast, ← Int.natCast_mul]
          rw [hBB] at e1
          injection e1 with e1 _
          rw [e1, tileBs_32 hsm _ _ _ (by rw [hLBl]; rw [hLBl] at w4; exact w4)]; omega
        have hIn := InTile_eq x (v / x : Nat) (tileN x v k) w BB v k hBl (by omega) (by omega)
        rw [hQ2] at hIn
        have hPa := Path_eq x (v / x : Nat) (tileN x v k) w
        have hq : pathQ x (v / x : Nat) (tileN x v k) w = (pathT x (v / x) (tileN x v k) w, 0) := by unfold pathQ; rw [if_pos htile2]; rfl
        rw [hq] at hPa
        have hPl := pathT_len (H := x) (L := v / x) (N := tileN x v k) (W := w) b2 b3 (by omega) b6
        have hPP := ParsePath_eq (pathT x (v / x) (tileN x v k) w) (by omega)
        rw [parT_yes (⟨htile2, rfl⟩ : IsT (pathT x (v / x) (tileN x v k) w) (x, v / x, tileN x v k, w))] at hPP
        simp only [tileQ] at hPP
        obtain ⟨PT, hPT⟩ : ∃ y, pathT x (v / x) (tileN x v k) w = y := ⟨_, rfl⟩
        rw [hPT] at hPa hPP
        have h32 := level_32 hsm (g := v) (k := k) (by rw [hLBl]; exact hc)
        obtain ⟨Z, hZ⟩ : ∃ y, wholeT nodeB (leafF LB) v k = y := ⟨_, rfl⟩
        rw [hZ] at hH hIn h32
        have hS := SameBytes_eq .sh .sh Z Z (by omega)
        simp only [beq_self_eq_true] at hS
        simp only [tileA] at hT hBy hIn hPa hPP
        simp only [logP] at hM hH hBy
        generalize hs l = HS at *
        generalize tileN x v k = TN at *
        generalize v / x = VX at *
        clear hQ2 hTile hTn htile2 told hBB hZ hPT
        simp (maxSteps := 4000000) [List.getElem?_cons_zero, List.getElem?_cons_succ, hF, hfew, hHl, hz, hM, log_eql, hhm, hvm, hkm, w1, hT, hH, hN, hBy, hIn, hPa, hPP, hS, need_of hlow, htk, Tryz.results4]
      · have hT := TileOf_no x n v k (fun t => by
          have := t.2.2.2.2
          obtain ⟨l', i', e1, e2, _, h2⟩ := inP_nat (Int.natCast_nonneg n) this
          have : l' = v := by omega
          subst this
          have : i' = k := by omega
          subst this
          simp only [Int.toNat_natCast] at h2
          exact hc h2)
        have hlh : lhashQ LB v k = none := by
          unfold lhashQ; rw [if_neg (by rw [hLBl]; simp only [Int.toNat_natCast]; rintro ⟨_, _, q⟩; exact hc q)]
        rw [hlh] at hH
        simp only [lookA] at hH
        simp only [tileA] at hT
        simp only [logP] at hM hH
        generalize hs l = HS at *
        simp (maxSteps := 4000000) [List.getElem?_cons_zero, List.getElem?_cons_succ, hF, hfew, hHl, hz, hM, log_eql, hhm, hvm, hkm, w1, hT, hH, hN, need_of hlow, htk, Tryz.results4]
end Go.Proofs.Tryz.Ai
end
section
/- The bulk of what came in. -/
namespace Go.Proofs.YtmikahmnomfacaaGreatDoor
open Go Go.AI
set_option linter.unusedVariables false
section
variable {H : Type}
theorem bulk_pos (d : DataW H) : 1 ≤ Rows.uptoBulk d := by
  cases d with
  | lit l => cases l <;> simp [Rows.uptoBulk]
  | _ => simp [Rows.uptoBulk]
theorem bulk_all (ds : List (DataW H)) : ds.length ≤ Rows.uptoBulkAll ds ∧ ∀ d ∈ ds, Rows.uptoBulk d ≤ Rows.uptoBulkAll ds := by
  induction ds with
  | nil => simp
  | cons d r ih =>
    have := bulk_pos d
    simp only [Rows.uptoBulkAll, List.length_cons, List.mem_cons]
    refine ⟨by omega, ?_⟩
    rintro x (rfl | hx)
    · omega
    · have := ih.2 x hx; omega
theorem small_str {s : List UInt8} {d : DataW H} (h : d = .lit (.string s) ∧ s.length ≤ maxLen) : s.length ≤ Rows.uptoBulk d := by
  rw [h.1]; simp [Rows.uptoBulk]
theorem slq_small {α : Type} {Q : α → DataW H → Prop} {f : α → Nat} {l : List α} {d : DataW H} (h : slQ Q l d) (hf : ∀ a x, Q a x → f a ≤ Rows.uptoBulk x) : l.length ≤ Rows.uptoBulk d ∧ ∀ a ∈ l, f a ≤ Rows.uptoBulk d := by
  rcases h with ⟨rfl, rfl⟩ | ⟨ds, rest, rfl, hl, _, hq⟩
  · simp
  · simp only [Rows.uptoBulk]
    have := bulk_all ds
    refine ⟨by omega, fun a ha => ?_⟩
    obtain ⟨i, hi⟩ := List.mem_iff_getElem?.1 ha
    have hlt := (List.getElem?_eq_some_iff.1 hi).1
    obtain ⟨x, hx⟩ : ∃ x, ds[i]? = some x := ⟨_, List.getElem?_eq_getElem (by omega)⟩
    have h1 := hf a x (hq i a x hi hx)
    have h2 := this.2 x (List.mem_of_getElem? hx)
    omega
theorem small_mod {m : List UInt8 × List UInt8} {d : DataW H} (h : st2Q (fun s d => d = .lit (.string s) ∧ s.length ≤ maxLen) (fun s d => d = .lit (.string s) ∧ s.length ≤ maxLen) m d) : m.1.length + m.2.length ≤ Rows.uptoBulk d := by
  obtain ⟨d0, d1, rfl, q0, q1⟩ := h
  have := small_str q0
  have := small_str q1
  simp only [Rows.uptoBulk, Rows.uptoBulkAll]; omega
theorem small_pair {m : List UInt8 × List UInt8} {d : DataW H} (h : st2Q (fun s d => d = .lit (.string s) ∧ s.length ≤ maxLen) (slQ fun (n : UInt8) d => d = .lit (.int .u8 n.toNat)) m d) : m.1.length + m.2.length ≤ Rows.uptoBulk d := by
  obtain ⟨d0, d1, rfl, q0, q1⟩ := h
  have := small_str q0
  have := (slq_small (f := fun _ => 0) q1 (fun a x h => Nat.zero_le _)).1
  simp only [Rows.uptoBulk, Rows.uptoBulkAll]; omega
end
end Go.Proofs.YtmikahmnomfacaaGreatDoor
end
section
/- The frame of TlogTiled: from the evaluation to the given statement. -/
namespace Go.Proofs.YtmikahmnomfacaaGreatDoor.tlogTiled
open Go Go.AI Go.ChangeShapes Go.WideShapes Go.ChangeAt Go.RowKit
set_option linter.unusedVariables false

theorem own : ownKnob Tryz.prog.godebug = none := by kernel_rfl
theorem mixed : Tryz.prog.follows .mixedOrders = true := by kernel_rfl
theorem laidOut : laidOutB Tryz.prog = true := by kernel_rfl

theorem walk (a0 : List (List UInt8)) (a1 : Int) (a2 : Int) (a3 : Int) (v0 v1 v2 v3 : Value) (W : World) (hl : Go.Proofs.Tryz.Ai.LaidAll W) (r0 : Rep W.heap.size gh0 W v0 (.sl .sh (a0.map fun l => .sl .sh (l.map .u8)))) (r1 : Rep W.heap.size gh0 W v1 (.int .i64 a1)) (r2 : Rep W.heap.size gh0 W v2 (.int .i64 a2)) (r3 : Rep W.heap.size gh0 W v3 (.int .i64 a3))
    (he : Go.Proofs.Tryz.Ai.ev 4 [.sl .sh (a0.map fun l => .sl .sh (l.map .u8)), .int .i64 a1, .int .i64 a2, .int .i64 a3] [] = some (.bool true, [])) :
    Calls Tryz.prog 4 #[v0, v1, v2, v3] W fun e w' => e = .returned (.bool true) ∧ Below W.heap.size W w' :=
  Go.AI.top (s' := []) mixed rfl (Go.Proofs.Tryz.Ai.T_ok hl) (by rfl)
    (fun j c h => by
      match j, h with
      | 0, h => simp at h; subst h; exact ⟨r0, rfl, rfl⟩
      | 1, h => simp at h; subst h; exact ⟨r1, rfl, rfl⟩
      | 2, h => simp at h; subst h; exact ⟨r2, rfl, rfl⟩
      | 3, h => simp at h; subst h; exact ⟨r3, rfl, rfl⟩
      | j + 4, h => simp at h)
    he

/-- the table of powers, as the row lays it -/
theorem laid_of {W : World} (hL : laidMet Tryz.prog Rows.tlogTiledUptoRow.laid W) : Go.Proofs.Tryz.Ai.Laid W :=
  tabIs_of_mem (g := 1) (t := 173) (e := 141) (n := 20) (by
    have : ("internal/strconv.uint64pow10", Rows.laid_internal_strconv_uint64pow10) ∈ Rows.tlogTiledUptoRow.laid := by simp [Rows.tlogTiledUptoRow]
    have e : (Rows.laid_internal_strconv_uint64pow10 : DataW Unit) = Lib.tabData .u64 Lib.pow10Tab := by kernel_rfl
    rw [e] at this; exact this) (by kernel_rfl) (by kernel_rfl) Tryz.underlying173 Tryz.underlying141 (by kernel_rfl) (by kernel_rfl) hL

/-- what a row lays, and what each world has -/
theorem all_of {W : World} (hL : laidMet Tryz.prog Rows.tlogTiledUptoRow.laid W) (hsh : W.ShapedOpen Tryz.prog) : Go.Proofs.Tryz.Ai.LaidAll W where
  tab := laid_of hL
  max := Go.Proofs.Tryz.Ai.maxLen_of hsh
  esyn := Go.Proofs.Tryz.Ai.errAt_of (g := 2) (Go.Proofs.Tryz.Ai.laidMet_drop 5 hL) (by kernel_rfl) (by kernel_rfl)
  eran := Go.Proofs.Tryz.Ai.errAt_of (g := 3) (Go.Proofs.Tryz.Ai.laidMet_drop 4 hL) (by kernel_rfl) (by kernel_rfl)

theorem readable : ∀ t ∈ Tryz.f4.params.toList, Tryz.prog.readableRec t = true ∧ t < Tryz.prog.types.size := by
  rw [Tryz.params4]
  intro t ht
  simp only [List.mem_cons, List.mem_nil_iff, or_false] at ht
  rcases ht with rfl | rfl | rfl | rfl <;> exact ⟨by kernel_rfl, of_decide_eq_true (by kernel_rfl)⟩

set_option maxRecDepth 100000 in
theorem contract (H : Type) (enc : TypeId × Value → H) (W : World) (base : Nat) (args : Array Value) (ds gs : List (DataW H)) (before : List MemPlace)
    (hval : ∀ (j : Nat) t v, Tryz.f4.params[j]? = some t → args[j]? = some v → Value.okWide Tryz.prog W .any base t v)
    (hW : DataW.Whole enc Tryz.prog Tryz.f4.params.toList Rows.tlogTiledSpec.vars false W args.toList ds gs before) (hcond : ∀ k, (Rows.OpenSpec.upto Rows.tlogTiledSpec).cond = some k → k H (ds ++ gs) = true) (hl : Go.Proofs.Tryz.Ai.LaidAll W) :
    Calls Tryz.prog 4 args W fun e W' => ∃ v, e = .returned v ∧ Rows.tlogTiledSpec.post enc Tryz.prog Tryz.f4 false true false false W args v W' := by
  have hW' := hW
  obtain ⟨p, q, hA0, hV, rfl, hfz, hnd⟩ := hW
  have hA : DataW.TrodAll enc Tryz.prog W 0 (fun _ => true) true Tryz.f4.params.toList args.toList ds p := hA0
  have hAk := hA
  rw [Tryz.params4] at hA hval
  obtain ⟨v0, vs0, d0, ds0, p0, q0, hargs0, rfl, rfl, h0, r0⟩ := trodAll_cons hA
  obtain ⟨v1, vs1, d1, ds1, p1, q1, hargs1, rfl, rfl, h1, r1⟩ := trodAll_cons r0
  obtain ⟨v2, vs2, d2, ds2, p2, q2, hargs2, rfl, rfl, h2, r2⟩ := trodAll_cons r1
  obtain ⟨v3, vs3, d3, ds3, p3, q3, hargs3, rfl, rfl, h3, r3⟩ := trodAll_cons r2
  obtain ⟨e1, e2, e3⟩ := trodAll_nil r3
  obtain rfl : args = #[v0, v1, v2, v3] := by cases args; simp_all
  subst e2 e3
  obtain ⟨rfl, rfl⟩ := trodVars_none hV
  obtain ⟨a0, Q0, R0, _⟩ := (Reads.slice (Reads.slice (Reads.u8 Tryz.underlying5 (by kernel_rfl)) Tryz.underlying35 (by kernel_rfl)) Tryz.underlying22 (by kernel_rfl)).arg1 (enc := enc) (W := W) (fun _ => rfl) (by kernel_rfl) (hval 0 22 v0 rfl rfl) h0
  obtain ⟨a1, Q1, R1, _⟩ := (Reads.int Tryz.underlying3 (by kernel_rfl)).arg1 (enc := enc) (W := W) (fun _ => rfl) (by kernel_rfl) (hval 1 3 v1 rfl rfl) h1
  obtain ⟨a2, Q2, R2, _⟩ := (Reads.int Tryz.underlying3 (by kernel_rfl)).arg1 (enc := enc) (W := W) (fun _ => rfl) (by kernel_rfl) (hval 2 3 v2 rfl rfl) h2
  obtain ⟨a3, Q3, R3, _⟩ := (Reads.int Tryz.underlying3 (by kernel_rfl)).arg1 (enc := enc) (W := W) (fun _ => rfl) (by kernel_rfl) (hval 3 3 v3 rfl rfl) h3
  have hb : Rows.uptoBulkAll ([d0, d1, d2, d3] ++ []) ≤ 1048576 := of_decide_eq_true (hcond _ rfl)
  simp only [List.append_nil, Rows.uptoBulkAll] at hb
  have s0 : a0.length ≤ 1048576 ∧ ∀ s ∈ a0, s.length ≤ 1048576 := by have := slq_small (f := List.length) Q0 (fun a x h => (slq_small (f := fun _ => 0) h (fun a x h => Nat.zero_le _)).1); exact ⟨by omega, fun s hs => by have := this.2 s hs; omega⟩
  have hlt : ∀ x ∈ (p0 ++ p1 ++ p2 ++ p3 : List MemPlace), True := fun _ _ => trivial
  refine (walk a0 a1 a2 a3 v0 v1 v2 v3 W hl R0 R1 R2 R3 (by have := Go.Proofs.Tryz.Ai.tiledLaw_eq a0 a1 a2 a3 s0 []; exact this)).mono fun e W' ⟨he, bel⟩ => ?_
  subst he
  exact ⟨_, rfl, _, _, _, [], _, [], hW', trodAll_mk1 (shut_bool Tryz.underlying4 _), trodAll_keep laidOut bel readable hAk (fun x hx => by simpa using hW'.lt x (by simpa using hx)), rfl, bel.frame _, fun h => by cases h⟩

noncomputable def laidWorld (os : Os) : World := World.laidAll Tryz.prog os Rows.tlogTiledUptoRow.laid
theorem laid_met (os : Os) : laidMet Tryz.prog Rows.tlogTiledUptoRow.laid ((laidWorld os).forCall (fun _ _ => 0) ⟨#[], #[.slice none 0 0, .int .i64 0, .int .i64 0, .int .i64 0], []⟩).memory :=
  laidMet_laidAll _ (by kernel_rfl) (by kernel_rfl)
theorem reads (os : Os) {H : Type} (enc : TypeId × Value → H) : ∃ places, DataW.whole enc Tryz.prog ((laidWorld os).forCall (fun _ _ => 0) ⟨#[], #[.slice none 0 0, .int .i64 0, .int .i64 0, .int .i64 0], []⟩).memory Tryz.f4.params.toList Rows.tlogTiledSpec.vars false (#[.slice none 0 0, .int .i64 0, .int .i64 0, .int .i64 0] : Array Value).toList 8 = some ([.nil, .lit (.int .i64 0), .lit (.int .i64 0), .lit (.int .i64 0)], [], places) :=
  ⟨[], by kernel_rfl⟩
theorem witness (os : Os) {H : Type} (enc : TypeId × Value → H) : ∃ (w : World) (tape : Tape) (i : Input), w.os = os ∧ (w.forCall tape i).Shaped Tryz.checked.prog ∧ i.vars = [] ∧ Input.okWide Tryz.checked.prog (w.forCall tape i) .any w.heap.size 4 i ∧
    (Rows.OpenSpec.upto Rows.tlogTiledSpec).preRow enc Tryz.checked.prog Tryz.f4 Rows.tlogTiledUptoRow.domain false Rows.tlogTiledUptoRow.laid (w.forCall tape i).memory i.args ∧ ({} : Assume).holds Tryz.checked.prog (lone (Frame.enter Tryz.checked.prog 4 i.args .normal) [] (w.forCall tape i)) := by
  obtain ⟨places, hx⟩ := reads os enc
  have hok : Input.okWideB Tryz.checked.prog ((laidWorld os).forCall (fun _ _ => 0) ⟨#[], #[.slice none 0 0, .int .i64 0, .int .i64 0, .int .i64 0], []⟩) 4 ⟨#[], #[.slice none 0 0, .int .i64 0, .int .i64 0, .int .i64 0], []⟩ = true := by kernel_rfl
  exact ⟨laidWorld os, fun _ _ => 0, ⟨#[], #[.slice none 0 0, .int .i64 0, .int .i64 0, .int .i64 0], []⟩, World.laidAll_os _ _ _, World.shaped_of_ZipB (by kernel_rfl) (by kernel_rfl), (Input.okWide_of_okWideB (base := 0) hok).1, (Input.okWide_of_okWideB hok).2,
    OpenSpec.preRow_of_cond 8 hx (by kernel_rfl) (fun k hk => by have e : k = Rows.uptoSmall := (Option.some.inj (show some Rows.uptoSmall = some k from hk)).symm; rw [e]; simp [Rows.uptoSmall, Rows.uptoBulkAll, Rows.uptoBulk]) (by kernel_rfl) (laid_met os), by
    simp only [Assume.holds]
    exact ⟨by simp, by simp, fun _ => Modest.zero, by simp, by simp⟩⟩

set_option maxRecDepth 100000 in
theorem lifted (os : Os) (started : os.Started) (H : Type) (enc : TypeId × Value → H) (F : Stop.Interp) :
    ReturnsInHanded {} Tryz.checked os 4 .any ((Rows.OpenSpec.upto Rows.tlogTiledSpec).preRow enc Tryz.prog Tryz.f4 Rows.tlogTiledUptoRow.domain false Rows.tlogTiledUptoRow.laid) (((Rows.OpenSpec.upto Rows.tlogTiledSpec).at F).post enc Tryz.prog Tryz.f4 false true false false) := by
  refine returnsInHanded_of_row (C := Tryz.checked) (s := (Rows.OpenSpec.upto Rows.tlogTiledSpec)) own started (by kernel_rfl) Tryz.func4 (witness os enc) ?_
  intro W base args ds gs before hval hW _ hcond _ hL hsh _
  exact contract H enc W base args ds gs before hval hW hcond (all_of (by rw [← MakeChecks.laidMetH_plain _ _ _ (by kernel_rfl)]; exact hL) hsh)

theorem said : Rows.TlogTiledUptoSaid :=
  OpenClaim.holds_of_cond 4 Tryz.f4 rfl rfl rfl rfl rfl rfl rfl ⟨rfl, rfl, rfl, rfl, rfl⟩ rfl rfl rfl rfl rfl (by kernel_rfl) Tryz.func4 (by kernel_rfl)
    (of_decide_eq_true (by kernel_rfl)) (by unfold Func.isWrapper; first | (rw [if_pos (by decide +kernel)]; kernel_rfl) | (rw [if_neg (by decide +kernel)]; exact ⟨rfl, rfl⟩))
    (fun os started H enc _ F => by rw [OpenClaim.pre_eq_preRow]; exact lifted os started H enc F)

theorem plain (f : FuncId) (fn : Func) (hf : Tryz.pinned.checked.prog.funcNamed "mews/mewslaw7.TlogTiled" = some f) (hfn : Tryz.pinned.checked.prog.funcs[f]? = some fn) :
    true = Tryz.pinned.checked.prog.looks [] ∧ ∀ (j : Nat) t, fn.params[j]? = some t → Tryz.pinned.checked.prog.wantsStandIn t = false := by
  obtain rfl : f = 4 := Option.some.inj ((show Tryz.prog.funcNamed "mews/mewslaw7.TlogTiled" = some 4 by kernel_rfl).symm.trans hf) |>.symm
  obtain rfl : fn = Tryz.f4 := (Option.some.inj (Tryz.func4.symm.trans hfn)).symm
  refine ⟨by kernel_rfl, fun j t ht => ?_⟩
  have hm : t ∈ Tryz.f4.params.toList := Array.mem_toList_iff.2 (Array.mem_of_getElem? ht)
  rw [Tryz.params4] at hm
  simp only [List.mem_cons, List.mem_nil_iff, or_false] at hm
  rcases hm with rfl | rfl | rfl | rfl
  · exact (show Tryz.prog.wantsStandIn 22 = false by kernel_rfl)
  · exact (show Tryz.prog.wantsStandIn 3 = false by kernel_rfl)
  · exact (show Tryz.prog.wantsStandIn 3 = false by kernel_rfl)
  · exact (show Tryz.prog.wantsStandIn 3 = false by kernel_rfl)

/-- the card -/
theorem card : Rows.TlogTiledUptoCardSaid :=
  Claim7.holds_tied_plain_at .later [] _ _ _ _ said (fun _ h => by cases h) (by kernel_rfl) (fun _ h => by cases h) tlogTiledUpto_row_tie rfl ⟨rfl, rfl⟩ (by kernel_rfl) rfl plain (by kernel_rfl)
end Go.Proofs.YtmikahmnomfacaaGreatDoor.tlogTiled
end
