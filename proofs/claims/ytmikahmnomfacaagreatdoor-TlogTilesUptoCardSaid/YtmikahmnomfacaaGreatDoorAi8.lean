/- Part 8 of a proof: a Go function is evaluated on abstract values (texts LTiles .. FTiles); no conditions beyond those of each theorem. -/
import Derived.Test.YtmikahmnomfacaaGreatDoorAi7
import Derived.Test.YtmikahmnomfacaaGreatDoorRows
import Derived.Test.YtmikahmnomfacaaGreatDoorCards
import Derived.Test.YtmikahmnomfacaaGreatDoorTie
import Derived.WalkKit
import Derived.ProofKit
import Derived.OpenShut
import Derived.Below
import Derived.ChangeOld
import Derived.Deep.DeepHandedRow
import Derived.Lib.LaidTab
import Derived.Lay
import Derived.MakeChecks
set_option linter.all false
set_option linter.unusedVariables false
set_option linter.unusedSimpArgs false
set_option linter.unnecessarySimpa false
section
/- TlogTiles: the evaluation. -/
namespace Go.Proofs.Tryz.Ai
open Go Go.AI Go.Proofs
set_option maxHeartbeats 8000000
set_option maxRecDepth 4000
set_option linter.unusedVariables false

theorem tilesN_mem (h n j : Nat) : ∀ x ∈ tilesN h n j, ∃ a b c d : Int, x = .agg [.int .i64 a, .int .i64 b, .int .i64 c, .int .i64 d] := by
  intro x hx
  unfold tilesN at hx
  obtain ⟨l, _, hx⟩ := List.mem_flatMap.1 hx
  obtain ⟨k, _, rfl⟩ := List.mem_map.1 hx
  exact ⟨_, _, _, _, rfl⟩
theorem tilesQ_mem (h n : Int) : ∀ x ∈ (tilesQ h n).1, ∃ a b c d : Int, x = .agg [.int .i64 a, .int .i64 b, .int .i64 c, .int .i64 d] := by
  unfold tilesQ
  split
  · exact tilesN_mem _ _ _
  · intro x hx; cases hx
theorem tileOf_both (h n v k : Int) : ∃ a b c d e : Int, (∀ σ, ev 10 [.int .i64 h, .int .i64 n, .int .i64 v, .int .i64 k] σ = some (.tup [.agg [.int .i64 a, .int .i64 b, .int .i64 c, .int .i64 d], .int .i64 e], σ)) ∧
    (∀ σ, ev 18 [.int .i64 h, .int .i64 n, .int .i64 v, .int .i64 k] σ = some (.tup [.agg [.int .i64 a, .int .i64 b, .int .i64 c, .int .i64 d], .int .i64 e], σ)) := by
  by_cases ht : tileOk h n v k
  · obtain ⟨a1, a2, a3, a4, a5⟩ := ht
    obtain ⟨v', k', rfl, rfl, hv, hk⟩ := inP_nat a3 a5
    obtain ⟨h, rfl⟩ := Int.eq_ofNat_of_zero_le (show 0 ≤ h by omega)
    obtain ⟨n, rfl⟩ := Int.eq_ofNat_of_zero_le a3
    simp only [Int.toNat_natCast] at hk
    exact ⟨_, _, _, _, _, fun σ => TileOf_yes h n v' k' (by omega) (by omega) (by omega) hv hk σ, fun σ => rTileOf_yes h n v' k' (by omega) (by omega) (by omega) hv hk σ⟩
  · exact ⟨_, _, _, _, _, fun σ => TileOf_no h n v k ht σ, fun σ => rTileOf_no h n v k ht σ⟩
theorem tilesLaw_eq (l : List (List UInt8)) (h n v k : Int) (t : Int × Int × Int × Int) (bb ss : List UInt8) (hl : l.length ≤ 1048576 ∧ ∀ s ∈ l, s.length ≤ 1048576) (bv : -9223372036854775808 ≤ v ∧ v ≤ 9223372036854775807) (bk : -9223372036854775808 ≤ k ∧ k ≤ 9223372036854775807)
    (sb : bb.length ≤ 1048576) (st : ss.length ≤ 1048576) (σ0 : List (List AV)) :
    ev 5 [.sl .sh (hs l), .int .i64 h, .int .i64 n, .int .i64 v, .int .i64 k, .agg [.int .i64 t.1, .int .i64 t.2.1, .int .i64 t.2.2.1, .int .i64 t.2.2.2], .sl .sh (bb.map .u8), .str ss] [] = some (.bool true, []) := by
  obtain ⟨σ, hσ⟩ : ∃ σ : List (List AV), σ = [] := ⟨_, rfl⟩
  rw [← hσ]
  obtain ⟨t1, t2, t3, t4⟩ := t
  simp only
  have hF := first_eq
  obtain ⟨b, hfew, hb⟩ := few_eq l (by omega) (fun x hx => by have := hl.2 x hx; omega) σ
  have hHl : (hs l).length = l.length := by simp [hs]
  refine EV_post rfl Tryz.func5 rfl (by simp [Tryz.ntmps5]) (by kernel_rfl) (by kernel_rfl) ?_
  cases b with
  | false =>
    generalize hs l = HS at *
    simp (maxSteps := 4000000) [List.getElem?_cons_zero, List.getElem?_cons_succ, hF, hfew, Tryz.results5]
  | true =>
    by_cases hz : 20000 < bb.length
    · generalize hs l = HS at *
      simp (maxSteps := 4000000) [List.getElem?_cons_zero, List.getElem?_cons_succ, hF, hfew, hz, Tryz.results5]
    · by_cases hz2 : 200 < ss.length
      · generalize hs l = HS at *
        simp (maxSteps := 4000000) [List.getElem?_cons_zero, List.getElem?_cons_succ, hF, hfew, hz, hz2, Tryz.results5]
      · have hb' := hb rfl
        obtain ⟨s, p, q, hM, hlog, hpre, hlen, hp, hq⟩ := made_of l (by omega) (fun x hx => by have := hl.2 x hx; omega) σ
        obtain ⟨LB, hLB⟩ : ∃ LB, l.map leafB = LB := ⟨_, rfl⟩
        rw [hLB] at hM hlog
        have hLBl : LB.length = l.length := by rw [← hLB]; simp
        have hN : ∀ n σ, ev 12 [.int .i64 n] σ = some (.int .i64 n, σ) := fun n σ => Num_eq n σ
        have hsm := hlog.small
        have hlow : lowS σ s := by subst hσ; intro b hb; simp at hb
        have htk : s.take σ.length = σ := by subst hσ; simp
        obtain ⟨x1, x2, x3, x4, xe, hT, hrT⟩ := tileOf_both h n v k
        have hBy := hlog.bytes t1 t2 t3 t4
        have hrBy := rBytes7_eq LB (by omega) hsm t1 t2 t3 t4
        have hIn := InTile_eq t1 t2 t3 t4 bb v k (by omega) (by omega) (by omega)
        have hrIn := rInTile_eq t1 t2 t3 t4 bb v k (by omega) (by omega) (by omega)
        have hPa := Path_eq t1 t2 t3 t4
        have hrPa := rPath_eq t1 t2 t3 t4
        have hPP := ParsePath_eq ss (by omega)
        have hrPP := rParse_eq ss (by omega)
        have hTs := Tiles_eq h l.length
        have hrTs := rTiles_eq h l.length
        have hmem := tilesQ_mem h l.length
        have hTl : ∀ a b c d σ, ev 20 [.agg [.int .i64 a, .int .i64 b, .int .i64 c, .int .i64 d]] σ = some (.agg [.int .i64 a, .int .i64 b, .int .i64 c, .int .i64 d], σ) := fun a b c d σ => Tile_eq a b c d σ
        have hTll : (tilesQ h l.length).1.length ≤ 2 ^ 40 := by
          unfold tilesQ
          split
          · refine Nat.le_trans (tilesN_len _ _ _) ?_
            simp only [Int.toNat_natCast]; omega
          · simp
        have hbq : (bytesQ LB t1 t2 t3 t4).1.length ≤ 2 ^ 40 := by
          unfold bytesQ
          split
          · have hle := tileBs_len (LB := LB) (fun i => leafF_len LB (fun x hx => by rw [hsm x hx]; omega) i) (t1 * t2).toNat (t3.toNat * 2 ^ t1.toNat) t4.toNat
            rename_i ht
            have h4 : t4.toNat ≤ 256 := by
              have h1 := ht.1.2.1
              have h2 := ht.1.2.2.2.2.2
              have hp8 := pow8 (h := t1.toNat) (by omega)
              generalize 2 ^ t1.toNat = X at *
              omega
            refine Nat.le_trans hle ?_
            have := Nat.mul_le_mul_right (2 ^ 20) h4
            omega
          · simp
        have hiq : (inTileQ t1 t2 t3 t4 bb v k).1.length ≤ 2 ^ 40 := by
          unfold inTileQ
          split
          · simp
          · split
            · simp
            · split
              · simp
              · exact Nat.le_trans (wholeT_len _ _ _ (chunk_len bb)) (by omega)
        obtain ⟨⟨B1, be⟩, hB1⟩ : ∃ y, bytesQ LB t1 t2 t3 t4 = y := ⟨_, rfl⟩
        rw [hB1] at hBy hrBy hbq
        obtain ⟨⟨I1, ie⟩, hI1⟩ : ∃ y, inTileQ t1 t2 t3 t4 bb v k = y := ⟨_, rfl⟩
        rw [hI1] at hIn hrIn hiq
        obtain ⟨⟨P1, pe⟩, hP1⟩ : ∃ y, pathQ t1 t2 t3 t4 = y := ⟨_, rfl⟩
        rw [hP1] at hPa hrPa
        obtain ⟨⟨⟨p1, p2, p3, p4⟩, ppe⟩, hPT⟩ : ∃ y, parT ss = y := ⟨_, rfl⟩
        rw [hPT] at hPP hrPP
        obtain ⟨⟨TT, tte⟩, hTT⟩ : ∃ y, tilesQ h l.length = y := ⟨_, rfl⟩
        rw [hTT] at hTs hrTs hmem hTll
        simp only at hbq hiq hmem hTll
        have hS1 := SameBytes_eq .sh .sh B1 B1 hbq
        have hS2 := SameBytes_eq .sh .sh I1 I1 hiq
        simp only [beq_self_eq_true] at hS1 hS2
        simp only [tileQ] at hPP hrPP
        simp only [tileA] at hBy hrBy hIn hrIn hPa hrPa hPP hrPP
        simp only [logP] at hM hBy
        have hzb : ¬ 20000 < (bb.map AV.u8).length := by simpa using hz
        generalize hs l = HS at *
        generalize hs LB = HB at *
        generalize bb.map AV.u8 = BBM at *
        obtain ⟨q1, hq1⟩ : ∃ x : Int, (p1 : Int) = x := ⟨_, rfl⟩
        obtain ⟨q2, hq2⟩ : ∃ x : Int, (p2 : Int) = x := ⟨_, rfl⟩
        obtain ⟨q3, hq3⟩ : ∃ x : Int, (p3 : Int) = x := ⟨_, rfl⟩
        obtain ⟨q4, hq4⟩ : ∃ x : Int, (p4 : Int) = x := ⟨_, rfl⟩
        rw [hq1, hq2, hq3, hq4] at hPP hrPP
        clear hB1 hI1 hP1 hPT hTT hq1 hq2 hq3 hq4 hlog hsm hLB hpre hlen
        simp (maxSteps := 4000000) [List.getElem?_cons_zero, List.getElem?_cons_succ, -regionA_true, hF, hfew, hzb, hz2, hM, log_eql, hT, hrT, hBy, hTl, hrBy, hIn, hrIn, hPa, hrPa, hPP, hrPP]
        refine Post_bndD [] _ (by rfl) (by simp (maxSteps := 4000000) [List.getElem?_cons_zero, List.getElem?_cons_succ, ]; exact rfl) ?_
        repeat (first
          | refine PostD_go _ (by rfl) (by rfl) (by simp (maxSteps := 4000000) [List.getElem?_cons_zero, List.getElem?_cons_succ, hTl, hN, hS1]; exact rfl) (by first | exact .inl rfl | exact .inr rfl) (by rfl) ?_
          | refine PostD_no1 _ (by rfl) (by rfl) (by simp (maxSteps := 4000000) [List.getElem?_cons_zero, List.getElem?_cons_succ, ]; exact rfl) ?_)
        refine PostD_end ?_
        simp (maxSteps := 4000000) [List.getElem?_cons_zero, List.getElem?_cons_succ, -regionA_true, hS2, hN]
        refine Post_bndD [] _ (by rfl) (by simp (maxSteps := 4000000) [List.getElem?_cons_zero, List.getElem?_cons_succ, ]; exact rfl) ?_
        repeat (first
          | refine PostD_go _ (by rfl) (by rfl) (by simp (maxSteps := 4000000) [List.getElem?_cons_zero, List.getElem?_cons_succ, hTl, hN]; exact rfl) (by first | exact .inl rfl | exact .inr rfl) (by rfl) ?_
          | refine PostD_no1 _ (by rfl) (by rfl) (by simp (maxSteps := 4000000) [List.getElem?_cons_zero, List.getElem?_cons_succ, ]; exact rfl) ?_)
        refine PostD_end ?_
        simp (maxSteps := 4000000) [List.getElem?_cons_zero, List.getElem?_cons_succ, hHl, hTs, hrTs, hN]
        refine Post_loop (I := fun i : Nat => ⟨[(43, .sl .sh TT), (45, .sl .sh TT), (47, .int .i64 i)], [], s⟩) (Pr := fun i => i ≤ TT.length) (μ := fun i => TT.length - i) (a := 0) (by simp) (by simp) ?_
        intro i hi
        have hTw : IntKind.i64.wrap ((i : Int) + 1) = (i : Int) + 1 := wrap64 (by omega)
        by_cases hc : i < TT.length
        · obtain ⟨x, hx⟩ : ∃ x, TT[i]? = some x := ⟨_, List.getElem?_eq_getElem hc⟩
          obtain ⟨a, b, c, d, rfl⟩ := hmem x (List.mem_of_getElem? hx)
          simp (maxSteps := 4000000) [List.getElem?_cons_zero, List.getElem?_cons_succ, -getElem?_pos, -regionA_true, hc]
          refine Post_bndD [] _ (by rfl) (by simp (maxSteps := 4000000) [List.getElem?_cons_zero, List.getElem?_cons_succ, ]; exact rfl) ?_
          repeat (first
            | refine PostD_go _ (by rfl) (by rfl) (by simp (maxSteps := 4000000) [List.getElem?_cons_zero, List.getElem?_cons_succ, -getElem?_pos, hx, hTl]; exact rfl) (by first | exact .inl rfl | exact .inr rfl) (by rfl) ?_
            | refine PostD_no1 _ (by rfl) (by rfl) (by simp (maxSteps := 4000000) [List.getElem?_cons_zero, List.getElem?_cons_succ, ]; exact rfl) ?_)
          refine PostD_end ?_
          simp (maxSteps := 4000000) [List.getElem?_cons_zero, List.getElem?_cons_succ, -getElem?_pos, hTw]
          exact ⟨i + 1, by omega, by omega, by simp⟩
        · simp (maxSteps := 4000000) [List.getElem?_cons_zero, List.getElem?_cons_succ, hc, need_of hlow, htk, Tryz.results5]
end Go.Proofs.Tryz.Ai
end
section
/- The bulk of what came in. -/
namespace Go.Proofs.YtmikahmnomfacaaGreatDoor
open Go Go.AI
set_option linter.unusedVariables false
section
variable {H : Type}
theorem bulk_pos (d : DataW H) : 1 ≤ Rows.uptoBulk d := by
  cases d with
  | lit l => cases l <;> simp [Rows.uptoBulk]
  | _ => simp [Rows.uptoBulk]
theorem bulk_all (ds : List (DataW H)) : ds.length ≤ Rows.uptoBulkAll ds ∧ ∀ d ∈ ds, Rows.uptoBulk d ≤ Rows.uptoBulkAll ds := by
  induction ds with
  | nil => simp
  | cons d r ih =>
    have := bulk_pos d
    simp only [Rows.uptoBulkAll, List.length_cons, List.mem_cons]
    refine ⟨by omega, ?_⟩
    rintro x (rfl | hx)
    · omega
    · have := ih.2 x hx; omega
theorem small_str {s : List UInt8} {d : DataW H} (h : d = .lit (.string s) ∧ s.length ≤ maxLen) : s.length ≤ Rows.uptoBulk d := by
  rw [h.1]; simp [Rows.uptoBulk]
theorem slq_small {α : Type} {Q : α → DataW H → Prop} {f : α → Nat} {l : List α} {d : DataW H} (h : slQ Q l d) (hf : ∀ a x, Q a x → f a ≤ Rows.uptoBulk x) : l.length ≤ Rows.uptoBulk d ∧ ∀ a ∈ l, f a ≤ Rows.uptoBulk d := by
  rcases h with ⟨rfl, rfl⟩ | ⟨ds, rest, rfl, hl, _, hq⟩
  · simp
  · simp only [Rows.uptoBulk]
    have := bulk_all ds
    refine ⟨by omega, fun a ha => ?_⟩
    obtain ⟨i, hi⟩ := List.mem_iff_getElem?.1 ha
    have hlt := (List.getElem?_eq_some_iff.1 hi).1
    obtain ⟨x, hx⟩ : ∃ x, ds[i]? = some x := ⟨_, List.getElem?_eq_getElem (by omega)⟩
    have h1 := hf a x (hq i a x hi hx)
    have h2 := this.2 x (List.mem_of_getElem? hx)
    omega
theorem small_mod {m : List UInt8 × List UInt8} {d : DataW H} (h : st2Q (fun s d => d = .lit (.string s) ∧ s.length ≤ maxLen) (fun s d => d = .lit (.string s) ∧ s.length ≤ maxLen) m d) : m.1.length + m.2.length ≤ Rows.uptoBulk d := by
  obtain ⟨d0, d1, rfl, q0, q1⟩ := h
  have := small_str q0
  have := small_str q1
  simp only [Rows.uptoBulk, Rows.uptoBulkAll]; omega
theorem small_pair {m : List UInt8 × List UInt8} {d : DataW H} (h : st2Q (fun s d => d = .lit (.string s) ∧ s.length ≤ maxLen) (slQ fun (n : UInt8) d => d = .lit (.int .u8 n.toNat)) m d) : m.1.length + m.2.length ≤ Rows.uptoBulk d := by
  obtain ⟨d0, d1, rfl, q0, q1⟩ := h
  have := small_str q0
  have := (slq_small (f := fun _ => 0) q1 (fun a x h => Nat.zero_le _)).1
  simp only [Rows.uptoBulk, Rows.uptoBulkAll]; omega
end
end Go.Proofs.YtmikahmnomfacaaGreatDoor
end
section
/- The frame of TlogTiles: from the evaluation to the given statement. -/
namespace Go.Proofs.YtmikahmnomfacaaGreatDoor.tlogTiles
open Go Go.AI Go.ChangeShapes Go.WideShapes Go.ChangeAt Go.RowKit
set_option linter.unusedVariables false

theorem own : ownKnob Tryz.prog.godebug = none := by kernel_rfl
theorem mixed : Tryz.prog.follows .mixedOrders = true := by kernel_rfl
theorem laidOut : laidOutB Tryz.prog = true := by kernel_rfl

theorem walk (a0 : List (List UInt8)) (a1 : Int) (a2 : Int) (a3 : Int) (a4 : Int) (a5 : Int × Int × Int × Int) (a6 : List UInt8) (a7 : List UInt8) (v0 v1 v2 v3 v4 v5 v6 v7 : Value) (W : World) (hl : Go.Proofs.Tryz.Ai.LaidAll W) (r0 : Rep W.heap.size gh0 W v0 (.sl .sh (a0.map fun l => .sl .sh (l.map .u8)))) (r1 : Rep W.heap.size gh0 W v1 (.int .i64 a1)) (r2 : Rep W.heap.size gh0 W v2 (.int .i64 a2)) (r3 : Rep W.heap.size gh0 W v3 (.int .i64 a3)) (r4 : Rep W.heap.size gh0 W v4 (.int .i64 a4)) (r5 : Rep W.heap.size gh0 W v5 (.agg [.int .i64 a5.1, .int .i64 a5.2.1, .int .i64 a5.2.2.1, .int .i64 a5.2.2.2])) (r6 : Rep W.heap.size gh0 W v6 (.sl .sh (a6.map .u8))) (r7 : Rep W.heap.size gh0 W v7 (.str a7))
    (he : Go.Proofs.Tryz.Ai.ev 5 [.sl .sh (a0.map fun l => .sl .sh (l.map .u8)), .int .i64 a1, .int .i64 a2, .int .i64 a3, .int .i64 a4, .agg [.int .i64 a5.1, .int .i64 a5.2.1, .int .i64 a5.2.2.1, .int .i64 a5.2.2.2], .sl .sh (a6.map .u8), .str a7] [] = some (.bool true, [])) :
    Calls Tryz.prog 5 #[v0, v1, v2, v3, v4, v5, v6, v7] W fun e w' => e = .returned (.bool true) ∧ Below W.heap.size W w' :=
  Go.AI.top (s' := []) mixed rfl (Go.Proofs.Tryz.Ai.T_ok hl) (by rfl)
    (fun j c h => by
      match j, h with
      | 0, h => simp at h; subst h; exact ⟨r0, rfl, rfl⟩
      | 1, h => simp at h; subst h; exact ⟨r1, rfl, rfl⟩
      | 2, h => simp at h; subst h; exact ⟨r2, rfl, rfl⟩
      | 3, h => simp at h; subst h; exact ⟨r3, rfl, rfl⟩
      | 4, h => simp at h; subst h; exact ⟨r4, rfl, rfl⟩
      | 5, h => simp at h; subst h; exact ⟨r5, rfl, rfl⟩
      | 6, h => simp at h; subst h; exact ⟨r6, rfl, rfl⟩
      | 7, h => simp at h; subst h; exact ⟨r7, rfl, rfl⟩
      | j + 8, h => simp at h)
    he

/-- the table of powers, as the row lays it -/
theorem laid_of {W : World} (hL : laidMet Tryz.prog Rows.tlogTilesUptoRow.laid W) : Go.Proofs.Tryz.Ai.Laid W :=
  tabIs_of_mem (g := 1) (t := 173) (e := 141) (n := 20) (by
    have : ("internal/strconv.uint64pow10", Rows.laid_internal_strconv_uint64pow10) ∈ Rows.tlogTilesUptoRow.laid := by simp [Rows.tlogTilesUptoRow]
    have e : (Rows.laid_internal_strconv_uint64pow10 : DataW Unit) = Lib.tabData .u64 Lib.pow10Tab := by kernel_rfl
    rw [e] at this; exact this) (by kernel_rfl) (by kernel_rfl) Tryz.underlying173 Tryz.underlying141 (by kernel_rfl) (by kernel_rfl) hL

/-- what a row lays, and what each world has -/
theorem all_of {W : World} (hL : laidMet Tryz.prog Rows.tlogTilesUptoRow.laid W) (hsh : W.ShapedOpen Tryz.prog) : Go.Proofs.Tryz.Ai.LaidAll W where
  tab := laid_of hL
  max := Go.Proofs.Tryz.Ai.maxLen_of hsh
  esyn := Go.Proofs.Tryz.Ai.errAt_of (g := 2) (Go.Proofs.Tryz.Ai.laidMet_drop 5 hL) (by kernel_rfl) (by kernel_rfl)
  eran := Go.Proofs.Tryz.Ai.errAt_of (g := 3) (Go.Proofs.Tryz.Ai.laidMet_drop 4 hL) (by kernel_rfl) (by kernel_rfl)

theorem readable : ∀ t ∈ Tryz.f5.params.toList, Tryz.prog.readableRec t = true ∧ t < Tryz.prog.types.size := by
  rw [Tryz.params5]
  intro t ht
  simp only [List.mem_cons, List.mem_nil_iff, or_false] at ht
  rcases ht with rfl | rfl | rfl | rfl | rfl | rfl | rfl | rfl <;> exact ⟨by kernel_rfl, of_decide_eq_true (by kernel_rfl)⟩

set_option maxRecDepth 100000 in
theorem contract (H : Type) (enc : TypeId × Value → H) (W : World) (base : Nat) (args : Array Value) (ds gs : List (DataW H)) (before : List MemPlace)
    (hval : ∀ (j : Nat) t v, Tryz.f5.params[j]? = some t → args[j]? = some v → Value.okWide Tryz.prog W .any base t v)
    (hW : DataW.Whole enc Tryz.prog Tryz.f5.params.toList Rows.tlogTilesSpec.vars false W args.toList ds gs before) (hcond : ∀ k, (Rows.OpenSpec.upto Rows.tlogTilesSpec).cond = some k → k H (ds ++ gs) = true) (hl : Go.Proofs.Tryz.Ai.LaidAll W) :
    Calls Tryz.prog 5 args W fun e W' => ∃ v, e = .returned v ∧ Rows.tlogTilesSpec.post enc Tryz.prog Tryz.f5 false true false false W args v W' := by
  have hW' := hW
  obtain ⟨p, q, hA0, hV, rfl, hfz, hnd⟩ := hW
  have hA : DataW.TrodAll enc Tryz.prog W 0 (fun _ => true) true Tryz.f5.params.toList args.toList ds p := hA0
  have hAk := hA
  rw [Tryz.params5] at hA hval
  obtain ⟨v0, vs0, d0, ds0, p0, q0, hargs0, rfl, rfl, h0, r0⟩ := trodAll_cons hA
  obtain ⟨v1, vs1, d1, ds1, p1, q1, hargs1, rfl, rfl, h1, r1⟩ := trodAll_cons r0
  obtain ⟨v2, vs2, d2, ds2, p2, q2, hargs2, rfl, rfl, h2, r2⟩ := trodAll_cons r1
  obtain ⟨v3, vs3, d3, ds3, p3, q3, hargs3, rfl, rfl, h3, r3⟩ := trodAll_cons r2
  obtain ⟨v4, vs4, d4, ds4, p4, q4, hargs4, rfl, rfl, h4, r4⟩ := trodAll_cons r3
  obtain ⟨v5, vs5, d5, ds5, p5, q5, hargs5, rfl, rfl, h5, r5⟩ := trodAll_cons r4
  obtain ⟨v6, vs6, d6, ds6, p6, q6, hargs6, rfl, rfl, h6, r6⟩ := trodAll_cons r5
  obtain ⟨v7, vs7, d7, ds7, p7, q7, hargs7, rfl, rfl, h7, r7⟩ := trodAll_cons r6
  obtain ⟨e1, e2, e3⟩ := trodAll_nil r7
  obtain rfl : args = #[v0, v1, v2, v3, v4, v5, v6, v7] := by cases args; simp_all
  subst e2 e3
  obtain ⟨rfl, rfl⟩ := trodVars_none hV
  obtain ⟨a0, Q0, R0, _⟩ := (Reads.slice (Reads.slice (Reads.u8 Tryz.underlying5 (by kernel_rfl)) Tryz.underlying35 (by kernel_rfl)) Tryz.underlying22 (by kernel_rfl)).arg1 (enc := enc) (W := W) (fun _ => rfl) (by kernel_rfl) (hval 0 22 v0 rfl rfl) h0
  obtain ⟨a1, Q1, R1, _⟩ := (Reads.int Tryz.underlying3 (by kernel_rfl)).arg1 (enc := enc) (W := W) (fun _ => rfl) (by kernel_rfl) (hval 1 3 v1 rfl rfl) h1
  obtain ⟨a2, Q2, R2, _⟩ := (Reads.int Tryz.underlying3 (by kernel_rfl)).arg1 (enc := enc) (W := W) (fun _ => rfl) (by kernel_rfl) (hval 2 3 v2 rfl rfl) h2
  obtain ⟨a3, Q3, R3, _⟩ := (Reads.int Tryz.underlying3 (by kernel_rfl)).arg1 (enc := enc) (W := W) (fun _ => rfl) (by kernel_rfl) (hval 3 3 v3 rfl rfl) h3
  obtain ⟨a4, Q4, R4, _⟩ := (Reads.int Tryz.underlying3 (by kernel_rfl)).arg1 (enc := enc) (W := W) (fun _ => rfl) (by kernel_rfl) (hval 4 3 v4 rfl rfl) h4
  obtain ⟨a5, Q5, R5, _⟩ := (Reads.struct4 (Reads.int Tryz.underlying3 (by kernel_rfl)) (Reads.int Tryz.underlying3 (by kernel_rfl)) (Reads.int Tryz.underlying3 (by kernel_rfl)) (Reads.int Tryz.underlying3 (by kernel_rfl)) Tryz.underlying31 (by rfl) (by kernel_rfl) (by kernel_rfl) (by kernel_rfl) (by kernel_rfl)).argS (enc := enc) (W := W) (fun _ => ⟨_, rfl⟩) Tryz.underlying31 (hval 5 31 v5 rfl rfl) h5
  obtain ⟨a6, Q6, R6, _⟩ := (Reads.slice (Reads.u8 Tryz.underlying5 (by kernel_rfl)) Tryz.underlying35 (by kernel_rfl)).arg1 (enc := enc) (W := W) (fun _ => rfl) (by kernel_rfl) (hval 6 35 v6 rfl rfl) h6
  obtain ⟨a7, Q7, R7, _⟩ := (Reads.str Tryz.underlying9 (by kernel_rfl)).arg1 (enc := enc) (W := W) (fun _ => rfl) (by kernel_rfl) (hval 7 9 v7 rfl rfl) h7
  have hb : Rows.uptoBulkAll ([d0, d1, d2, d3, d4, d5, d6, d7] ++ []) ≤ 1048576 := of_decide_eq_true (hcond _ rfl)
  simp only [List.append_nil, Rows.uptoBulkAll] at hb
  have s0 : a0.length ≤ 1048576 ∧ ∀ s ∈ a0, s.length ≤ 1048576 := by have := slq_small (f := List.length) Q0 (fun a x h => (slq_small (f := fun _ => 0) h (fun a x h => Nat.zero_le _)).1); exact ⟨by omega, fun s hs => by have := this.2 s hs; omega⟩
  have s3 : -9223372036854775808 ≤ a3 ∧ a3 ≤ 9223372036854775807 := bounds_i64 Q3.2
  have s4 : -9223372036854775808 ≤ a4 ∧ a4 ≤ 9223372036854775807 := bounds_i64 Q4.2
  have s6 : a6.length ≤ 1048576 := by have := (slq_small (f := fun _ => 0) Q6 (fun a x h => Nat.zero_le _)).1; omega
  have s7 : a7.length ≤ 1048576 := by have := small_str Q7; omega
  have hlt : ∀ x ∈ (p0 ++ p1 ++ p2 ++ p3 ++ p4 ++ p5 ++ p6 ++ p7 : List MemPlace), True := fun _ _ => trivial
  refine (walk a0 a1 a2 a3 a4 a5 a6 a7 v0 v1 v2 v3 v4 v5 v6 v7 W hl R0 R1 R2 R3 R4 R5 R6 R7 (by have := Go.Proofs.Tryz.Ai.tilesLaw_eq a0 a1 a2 a3 a4 a5 a6 a7 s0 s3 s4 s6 s7 []; exact this)).mono fun e W' ⟨he, bel⟩ => ?_
  subst he
  exact ⟨_, rfl, _, _, _, [], _, [], hW', trodAll_mk1 (shut_bool Tryz.underlying4 _), trodAll_keep laidOut bel readable hAk (fun x hx => by simpa using hW'.lt x (by simpa using hx)), rfl, bel.frame _, fun h => by cases h⟩

noncomputable def laidWorld (os : Os) : World := World.laidAll Tryz.prog os Rows.tlogTilesUptoRow.laid
theorem laid_met (os : Os) : laidMet Tryz.prog Rows.tlogTilesUptoRow.laid ((laidWorld os).forCall (fun _ _ => 0) ⟨#[], #[.slice none 0 0, .int .i64 0, .int .i64 0, .int .i64 0, .int .i64 0, .agg #[.int .i64 0, .int .i64 0, .int .i64 0, .int .i64 0], .slice none 0 0, .string ⟨#[]⟩], []⟩).memory :=
  laidMet_laidAll _ (by kernel_rfl) (by kernel_rfl)
theorem reads (os : Os) {H : Type} (enc : TypeId × Value → H) : ∃ places, DataW.whole enc Tryz.prog ((laidWorld os).forCall (fun _ _ => 0) ⟨#[], #[.slice none 0 0, .int .i64 0, .int .i64 0, .int .i64 0, .int .i64 0, .agg #[.int .i64 0, .int .i64 0, .int .i64 0, .int .i64 0], .slice none 0 0, .string ⟨#[]⟩], []⟩).memory Tryz.f5.params.toList Rows.tlogTilesSpec.vars false (#[.slice none 0 0, .int .i64 0, .int .i64 0, .int .i64 0, .int .i64 0, .agg #[.int .i64 0, .int .i64 0, .int .i64 0, .int .i64 0], .slice none 0 0, .string ⟨#[]⟩] : Array Value).toList 8 = some ([.nil, .lit (.int .i64 0), .lit (.int .i64 0), .lit (.int .i64 0), .lit (.int .i64 0), .agg [.lit (.int .i64 0), .lit (.int .i64 0), .lit (.int .i64 0), .lit (.int .i64 0)], .nil, .lit (.string [])], [], places) :=
  ⟨[], by kernel_rfl⟩
theorem witness (os : Os) {H : Type} (enc : TypeId × Value → H) : ∃ (w : World) (tape : Tape) (i : Input), w.os = os ∧ (w.forCall tape i).Shaped Tryz.checked.prog ∧ i.vars = [] ∧ Input.okWide Tryz.checked.prog (w.forCall tape i) .any w.heap.size 5 i ∧
    (Rows.OpenSpec.upto Rows.tlogTilesSpec).preRow enc Tryz.checked.prog Tryz.f5 Rows.tlogTilesUptoRow.domain false Rows.tlogTilesUptoRow.laid (w.forCall tape i).memory i.args ∧ ({} : Assume).holds Tryz.checked.prog (lone (Frame.enter Tryz.checked.prog 5 i.args .normal) [] (w.forCall tape i)) := by
  obtain ⟨places, hx⟩ := reads os enc
  have hok : Input.okWideB Tryz.checked.prog ((laidWorld os).forCall (fun _ _ => 0) ⟨#[], #[.slice none 0 0, .int .i64 0, .int .i64 0, .int .i64 0, .int .i64 0, .agg #[.int .i64 0, .int .i64 0, .int .i64 0, .int .i64 0], .slice none 0 0, .string ⟨#[]⟩], []⟩) 5 ⟨#[], #[.slice none 0 0, .int .i64 0, .int .i64 0, .int .i64 0, .int .i64 0, .agg #[.int .i64 0, .int .i64 0, .int .i64 0, .int .i64 0], .slice none 0 0, .string ⟨#[]⟩], []⟩ = true := by kernel_rfl
  exact ⟨laidWorld os, fun _ _ => 0, ⟨#[], #[.slice none 0 0, .int .i64 0, .int .i64 0, .int .i64 0, .int .i64 0, .agg #[.int .i64 0, .int .i64 0, .int .i64 0, .int .i64 0], .slice none 0 0, .string ⟨#[]⟩], []⟩, World.laidAll_os _ _ _, World.shaped_of_ZipB (by kernel_rfl) (by kernel_rfl), (Input.okWide_of_okWideB (base := 0) hok).1, (Input.okWide_of_okWideB hok).2,
    OpenSpec.preRow_of_cond 8 hx (by kernel_rfl) (fun k hk => by have e : k = Rows.uptoSmall := (Option.some.inj (show some Rows.uptoSmall = some k from hk)).symm; rw [e]; simp [Rows.uptoSmall, Rows.uptoBulkAll, Rows.uptoBulk]) (by kernel_rfl) (laid_met os), by
    simp only [Assume.holds]
    exact ⟨by simp, by simp, fun _ => Modest.zero, by simp, by simp⟩⟩

set_option maxRecDepth 100000 in
theorem lifted (os : Os) (started : os.Started) (H : Type) (enc : TypeId × Value → H) (F : Stop.Interp) :
    ReturnsInHanded {} Tryz.checked os 5 .any ((Rows.OpenSpec.upto Rows.tlogTilesSpec).preRow enc Tryz.prog Tryz.f5 Rows.tlogTilesUptoRow.domain false Rows.tlogTilesUptoRow.laid) (((Rows.OpenSpec.upto Rows.tlogTilesSpec).at F).post enc Tryz.prog Tryz.f5 false true false false) := by
  refine returnsInHanded_of_row (C := Tryz.checked) (s := (Rows.OpenSpec.upto Rows.tlogTilesSpec)) own started (by kernel_rfl) Tryz.func5 (witness os enc) ?_
  intro W base args ds gs before hval hW _ hcond _ hL hsh _
  exact contract H enc W base args ds gs before hval hW hcond (all_of (by rw [← MakeChecks.laidMetH_plain _ _ _ (by kernel_rfl)]; exact hL) hsh)

theorem said : Rows.TlogTilesUptoSaid :=
  OpenClaim.holds_of_cond 5 Tryz.f5 rfl rfl rfl rfl rfl rfl rfl ⟨rfl, rfl, rfl, rfl, rfl⟩ rfl rfl rfl rfl rfl (by kernel_rfl) Tryz.func5 (by kernel_rfl)
    (of_decide_eq_true (by kernel_rfl)) (by unfold Func.isWrapper; first | (rw [if_pos (by decide +kernel)]; kernel_rfl) | (rw [if_neg (by decide +kernel)]; exact ⟨rfl, rfl⟩))
    (fun os started H enc _ F => by rw [OpenClaim.pre_eq_preRow]; exact lifted os started H enc F)

theorem plain (f : FuncId) (fn : Func) (hf : Tryz.pinned.checked.prog.funcNamed "mews/mewslaw7.TlogTiles" = some f) (hfn : Tryz.pinned.checked.prog.funcs[f]? = some fn) :
    true = Tryz.pinned.checked.prog.looks [] ∧ ∀ (j : Nat) t, fn.params[j]? = some t → Tryz.pinned.checked.prog.wantsStandIn t = false := by
  obtain rfl : f = 5 := Option.some.inj ((show Tryz.prog.funcNamed "mews/mewslaw7.TlogTiles" = some 5 by kernel_rfl).symm.trans hf) |>.symm
  obtain rfl : fn = Tryz.f5 := (Option.some.inj (Tryz.func5.symm.trans hfn)).symm
  refine ⟨by kernel_rfl, fun j t ht => ?_⟩
  have hm : t ∈ Tryz.f5.params.toList := Array.mem_toList_iff.2 (Array.mem_of_getElem? ht)
  rw [Tryz.params5] at hm
  simp only [List.mem_cons, List.mem_nil_iff, or_false] at hm
  rcases hm with rfl | rfl | rfl | rfl | rfl | rfl | rfl | rfl
  · exact (show Tryz.prog.wantsStandIn 22 = false by kernel_rfl)
  · exact (show Tryz.prog.wantsStandIn 3 = false by kernel_rfl)
  · exact (show Tryz.prog.wantsStandIn 3 = false by kernel_rfl)
  · exact (show Tryz.prog.wantsStandIn 3 = false by kernel_rfl)
  · exact (show Tryz.prog.wantsStandIn 3 = false by kernel_rfl)
  · exact (show Tryz.prog.wantsStandIn 31 = false by kernel_rfl)
  · exact (show Tryz.prog.wantsStandIn 35 = false by kernel_rfl)
  · exact (show Tryz.prog.wantsStandIn 9 = false by kernel_rfl)

/-- the card -/
theorem card : Rows.TlogTilesUptoCardSaid :=
  Claim7.holds_tied_plain_at .later [] _ _ _ _ said (fun _ h => by cases h) (by kernel_rfl) (fun _ h => by cases h) tlogTilesUpto_row_tie rfl ⟨rfl, rfl⟩ (by kernel_rfl) rfl plain (by kernel_rfl)
end Go.Proofs.YtmikahmnomfacaaGreatDoor.tlogTiles
end
