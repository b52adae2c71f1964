/- Part 8 of a proof: a Go function is evaluated on abstract values (texts LSound .. FSound); no conditions beyond those of each theorem. -/
import Derived.Test.YtmikahmnomfacaaGreatDoorAi7
import Derived.Test.YtmikahmnomfacaaGreatDoorRows
import Derived.Test.YtmikahmnomfacaaGreatDoorCards
import Derived.Test.YtmikahmnomfacaaGreatDoorTie
import Derived.WalkKit
import Derived.ProofKit
import Derived.OpenShut
import Derived.Below
import Derived.ChangeOld
import Derived.Deep.DeepHandedRow
import Derived.Lib.LaidTab
import Derived.Lay
import Derived.MakeChecks
set_option linter.all false
set_option linter.unusedVariables false
set_option linter.unusedSimpArgs false
set_option linter.unnecessarySimpa false
section
/- TlogSound: the evaluation. -/
namespace Go.Proofs.Tryz.Ai
open Go Go.AI Go.Proofs
set_option maxHeartbeats 4000000
set_option linter.unusedVariables false

theorem smod_in (i : Int) (n : Nat) (h : 0 < n) (hn : n ≤ 2 ^ 30) : ∃ k : Nat, k < n ∧ (IntKind.i64.wrap (i.tmod n + n)).tmod n = (k : Int) := by
  have h1 := Int.tmod_lt_of_pos i (b := n) (by omega)
  have h2 : -(n : Int) < i.tmod n := by
    have := Int.tmod_lt_of_pos (-i) (b := n) (by omega)
    rw [Int.neg_tmod] at this; omega
  rw [wrap64 (by omega), Int.tmod_eq_emod_of_nonneg (by omega)]
  have h3 := Int.emod_nonneg (i.tmod n + n) (b := n) (by omega)
  have h4 := Int.emod_lt_of_pos (i.tmod n + n) (b := n) (by omega)
  exact ⟨((i.tmod n + n) % n).toNat, by omega, by omega⟩
theorem smod_in1 (i : Int) (n M : Nat) (h : 0 < n) (hn : n ≤ 2 ^ 30) (hM : n + 1 = M) : ∃ k : Nat, k < n + 1 ∧ (IntKind.i64.wrap (IntKind.i64.wrap (i.tmod M + n) + 1)).tmod M = (k : Int) := by
  have h1 := Int.tmod_lt_of_pos i (b := (M : Int)) (by omega)
  have h2 : -(M : Int) < i.tmod (M : Int) := by
    have := Int.tmod_lt_of_pos (-i) (b := (M : Int)) (by omega)
    rw [Int.neg_tmod] at this; omega
  generalize i.tmod (M : Int) = Z at *
  have h3 := Int.emod_nonneg (Z + (M : Int)) (b := (M : Int)) (by omega)
  have h4 := Int.emod_lt_of_pos (Z + (M : Int)) (b := (M : Int)) (by omega)
  refine ⟨((Z + (M : Int)) % (M : Int)).toNat, by omega, ?_⟩
  rw [wrap64 (n := Z + n) (by omega), wrap64 (by omega), Int.tmod_eq_emod_of_nonneg (by omega), show Z + (n : Int) + 1 = Z + (M : Int) by omega]
  omega
theorem soundLaw_eq (l : List (List UInt8)) (i m n bit : Int) (h : l.length ≤ 1048576 ∧ ∀ s ∈ l, s.length ≤ 1048576) (σ0 : List (List AV)) : ev 3 [.sl .sh (hs l), .int .i64 i, .int .i64 m, .int .i64 n, .int .i64 bit] [] = some (.bool true, []) := by
  obtain ⟨σ, hσ⟩ : ∃ σ : List (List AV), σ = [] := ⟨_, rfl⟩
  rw [← hσ]
  have hF := first_eq
  obtain ⟨b, hfew, hb⟩ := few_eq l (by omega) (fun x hx => by have := h.2 x hx; omega) σ
  have hHl : (hs l).length = l.length := by simp [hs]
  refine EV_post rfl Tryz.func3 rfl (by simp [Tryz.ntmps3]) (by kernel_rfl) (by kernel_rfl) ?_
  cases b with
  | false =>
    generalize hs l = H at *
    simp (maxSteps := 4000000) [List.getElem?_cons_zero, List.getElem?_cons_succ, hF, hfew, Tryz.results3]
  | true =>
    by_cases hz : l.length = 0
    · generalize hs l = H at *
      simp (maxSteps := 4000000) [List.getElem?_cons_zero, List.getElem?_cons_succ, hF, hfew, hHl, hz, Tryz.results3]
    · have hb' := hb rfl
      obtain ⟨s, p, q, hM, hlog, hpre, hlen, hp, hq⟩ := made_of l (by omega) (fun x hx => by have := h.2 x hx; omega) σ
      obtain ⟨LB, hLB⟩ : ∃ LB, l.map leafB = LB := ⟨_, rfl⟩
      rw [hLB] at hM hlog
      have hLBl : LB.length = l.length := by rw [← hLB]; simp
      obtain ⟨N0, hN0, hNm⟩ := smod_in n l.length (by omega) (by omega)
      have w1 : IntKind.i64.wrap ((N0 : Int) + 1) = ((N0 + 1 : Nat) : Int) := by rw [wrap64 (by omega)]; omega
      obtain ⟨N, hN⟩ : ∃ N, N0 + 1 = N := ⟨_, rfl⟩
      rw [hN] at w1
      obtain ⟨k, hk, hkm⟩ := smod_in i N (by omega) (by omega)
      obtain ⟨M, hMM⟩ : ∃ M, N + 1 = M := ⟨_, rfl⟩
      obtain ⟨j, hj, hjm⟩ := smod_in1 m N M (by omega) (by omega) hMM
      have w2 : IntKind.i64.wrap ((N : Int) + 1) = (M : Int) := by rw [wrap64 (by omega)]; omega
      have z1 : ¬ N = 0 := by omega
      have z2 : ¬ M = 0 := by omega
      have hP := proves_eq hlog k j N (by omega) (by omega) (by omega) bit
      simp only [logP] at hM hP
      generalize hs l = H at *
      simp (maxSteps := 4000000) [List.getElem?_cons_zero, List.getElem?_cons_succ, hF, hfew, hHl, hz, hM, log_eql, hNm, w1, w2, z1, z2, hkm, hjm, hP, Tryz.results3]
      rw [need_of (by subst hσ; intro b hb; simp at hb)]; subst hσ; simp
end Go.Proofs.Tryz.Ai
end
section
/- The bulk of what came in. -/
namespace Go.Proofs.YtmikahmnomfacaaGreatDoor
open Go Go.AI
set_option linter.unusedVariables false
section
variable {H : Type}
theorem bulk_pos (d : DataW H) : 1 ≤ Rows.uptoBulk d := by
  cases d with
  | lit l => cases l <;> simp [Rows.uptoBulk]
  | _ => simp [Rows.uptoBulk]
theorem bulk_all (ds : List (DataW H)) : ds.length ≤ Rows.uptoBulkAll ds ∧ ∀ d ∈ ds, Rows.uptoBulk d ≤ Rows.uptoBulkAll ds := by
  induction ds with
  | nil => simp
  | cons d r ih =>
    have := bulk_pos d
    simp only [Rows.uptoBulkAll, List.length_cons, List.mem_cons]
    refine ⟨by omega, ?_⟩
    rintro x (rfl | hx)
    · omega
    · have := ih.2 x hx; omega
theorem small_str {s : List UInt8} {d : DataW H} (h : d = .lit (.string s) ∧ s.length ≤ maxLen) : s.length ≤ Rows.uptoBulk d := by
  rw [h.1]; simp [Rows.uptoBulk]
theorem slq_small {α : Type} {Q : α → DataW H → Prop} {f : α → Nat} {l : List α} {d : DataW H} (h : slQ Q l d) (hf : ∀ a x, Q a x → f a ≤ Rows.uptoBulk x) : l.length ≤ Rows.uptoBulk d ∧ ∀ a ∈ l, f a ≤ Rows.uptoBulk d := by
  rcases h with ⟨rfl, rfl⟩ | ⟨ds, rest, rfl, hl, _, hq⟩
  · simp
  · simp only [Rows.uptoBulk]
    have := bulk_all ds
    refine ⟨by omega, fun a ha => ?_⟩
    obtain ⟨i, hi⟩ := List.mem_iff_getElem?.1 ha
    have hlt := (List.getElem?_eq_some_iff.1 hi).1
    obtain ⟨x, hx⟩ : ∃ x, ds[i]? = some x := ⟨_, List.getElem?_eq_getElem (by omega)⟩
    have h1 := hf a x (hq i a x hi hx)
    have h2 := this.2 x (List.mem_of_getElem? hx)
    omega
theorem small_mod {m : List UInt8 × List UInt8} {d : DataW H} (h : st2Q (fun s d => d = .lit (.string s) ∧ s.length ≤ maxLen) (fun s d => d = .lit (.string s) ∧ s.length ≤ maxLen) m d) : m.1.length + m.2.length ≤ Rows.uptoBulk d := by
  obtain ⟨d0, d1, rfl, q0, q1⟩ := h
  have := small_str q0
  have := small_str q1
  simp only [Rows.uptoBulk, Rows.uptoBulkAll]; omega
end
end Go.Proofs.YtmikahmnomfacaaGreatDoor
end
section
/- The frame of TlogSound: from the evaluation to the given statement. -/
namespace Go.Proofs.YtmikahmnomfacaaGreatDoor.tlogSound
open Go Go.AI Go.ChangeShapes Go.WideShapes Go.ChangeAt Go.RowKit
set_option linter.unusedVariables false

theorem own : ownKnob Tryz.prog.godebug = none := by kernel_rfl
theorem mixed : Tryz.prog.follows .mixedOrders = true := by kernel_rfl
theorem laidOut : laidOutB Tryz.prog = true := by kernel_rfl

theorem walk (a0 : List (List UInt8)) (a1 : Int) (a2 : Int) (a3 : Int) (a4 : Int) (v0 v1 v2 v3 v4 : Value) (W : World) (hl : Go.Proofs.Tryz.Ai.LaidAll W) (r0 : Rep W.heap.size gh0 W v0 (.sl .sh (a0.map fun l => .sl .sh (l.map .u8)))) (r1 : Rep W.heap.size gh0 W v1 (.int .i64 a1)) (r2 : Rep W.heap.size gh0 W v2 (.int .i64 a2)) (r3 : Rep W.heap.size gh0 W v3 (.int .i64 a3)) (r4 : Rep W.heap.size gh0 W v4 (.int .i64 a4))
    (he : Go.Proofs.Tryz.Ai.ev 3 [.sl .sh (a0.map fun l => .sl .sh (l.map .u8)), .int .i64 a1, .int .i64 a2, .int .i64 a3, .int .i64 a4] [] = some (.bool true, [])) :
    Calls Tryz.prog 3 #[v0, v1, v2, v3, v4] W fun e w' => e = .returned (.bool true) ∧ Below W.heap.size W w' :=
  Go.AI.top (s' := []) mixed rfl (Go.Proofs.Tryz.Ai.T_ok hl) (by rfl)
    (fun j c h => by
      match j, h with
      | 0, h => simp at h; subst h; exact ⟨r0, rfl, rfl⟩
      | 1, h => simp at h; subst h; exact ⟨r1, rfl, rfl⟩
      | 2, h => simp at h; subst h; exact ⟨r2, rfl, rfl⟩
      | 3, h => simp at h; subst h; exact ⟨r3, rfl, rfl⟩
      | 4, h => simp at h; subst h; exact ⟨r4, rfl, rfl⟩
      | j + 5, h => simp at h)
    he

/-- the table of powers, as the row lays it -/
theorem laid_of {W : World} (hL : laidMet Tryz.prog Rows.tlogSoundUptoRow.laid W) : Go.Proofs.Tryz.Ai.Laid W :=
  tabIs_of_mem (g := 1) (t := 173) (e := 141) (n := 20) (by
    have : ("internal/strconv.uint64pow10", Rows.laid_internal_strconv_uint64pow10) ∈ Rows.tlogSoundUptoRow.laid := by simp [Rows.tlogSoundUptoRow]
    have e : (Rows.laid_internal_strconv_uint64pow10 : DataW Unit) = Lib.tabData .u64 Lib.pow10Tab := by kernel_rfl
    rw [e] at this; exact this) (by kernel_rfl) (by kernel_rfl) Tryz.underlying173 Tryz.underlying141 (by kernel_rfl) (by kernel_rfl) hL

/-- what a row lays, and what each world has -/
theorem all_of {W : World} (hL : laidMet Tryz.prog Rows.tlogSoundUptoRow.laid W) (hsh : W.ShapedOpen Tryz.prog) : Go.Proofs.Tryz.Ai.LaidAll W where
  tab := laid_of hL
  max := Go.Proofs.Tryz.Ai.maxLen_of hsh

theorem readable : ∀ t ∈ Tryz.f3.params.toList, Tryz.prog.readableRec t = true ∧ t < Tryz.prog.types.size := by
  rw [Tryz.params3]
  intro t ht
  simp only [List.mem_cons, List.mem_nil_iff, or_false] at ht
  rcases ht with rfl | rfl | rfl | rfl | rfl <;> exact ⟨by kernel_rfl, of_decide_eq_true (by kernel_rfl)⟩

set_option maxRecDepth 100000 in
theorem contract (H : Type) (enc : TypeId × Value → H) (W : World) (base : Nat) (args : Array Value) (ds gs : List (DataW H)) (before : List MemPlace)
    (hval : ∀ (j : Nat) t v, Tryz.f3.params[j]? = some t → args[j]? = some v → Value.okWide Tryz.prog W .any base t v)
    (hW : DataW.Whole enc Tryz.prog Tryz.f3.params.toList Rows.tlogSoundSpec.vars false W args.toList ds gs before) (hcond : ∀ k, (Rows.OpenSpec.upto Rows.tlogSoundSpec).cond = some k → k H (ds ++ gs) = true) (hl : Go.Proofs.Tryz.Ai.LaidAll W) :
    Calls Tryz.prog 3 args W fun e W' => ∃ v, e = .returned v ∧ Rows.tlogSoundSpec.post enc Tryz.prog Tryz.f3 false true false false W args v W' := by
  have hW' := hW
  obtain ⟨p, q, hA0, hV, rfl, hfz, hnd⟩ := hW
  have hA : DataW.TrodAll enc Tryz.prog W 0 (fun _ => true) true Tryz.f3.params.toList args.toList ds p := hA0
  have hAk := hA
  rw [Tryz.params3] at hA hval
  obtain ⟨v0, vs0, d0, ds0, p0, q0, hargs0, rfl, rfl, h0, r0⟩ := trodAll_cons hA
  obtain ⟨v1, vs1, d1, ds1, p1, q1, hargs1, rfl, rfl, h1, r1⟩ := trodAll_cons r0
  obtain ⟨v2, vs2, d2, ds2, p2, q2, hargs2, rfl, rfl, h2, r2⟩ := trodAll_cons r1
  obtain ⟨v3, vs3, d3, ds3, p3, q3, hargs3, rfl, rfl, h3, r3⟩ := trodAll_cons r2
  obtain ⟨v4, vs4, d4, ds4, p4, q4, hargs4, rfl, rfl, h4, r4⟩ := trodAll_cons r3
  obtain ⟨e1, e2, e3⟩ := trodAll_nil r4
  obtain rfl : args = #[v0, v1, v2, v3, v4] := by cases args; simp_all
  subst e2 e3
  obtain ⟨rfl, rfl⟩ := trodVars_none hV
  obtain ⟨a0, Q0, R0, _⟩ := (Reads.slice (Reads.slice (Reads.u8 Tryz.underlying5 (by kernel_rfl)) Tryz.underlying35 (by kernel_rfl)) Tryz.underlying22 (by kernel_rfl)).arg1 (enc := enc) (W := W) (fun _ => rfl) (by kernel_rfl) (hval 0 22 v0 rfl rfl) h0
  obtain ⟨a1, Q1, R1, _⟩ := (Reads.int Tryz.underlying3 (by kernel_rfl)).arg1 (enc := enc) (W := W) (fun _ => rfl) (by kernel_rfl) (hval 1 3 v1 rfl rfl) h1
  obtain ⟨a2, Q2, R2, _⟩ := (Reads.int Tryz.underlying3 (by kernel_rfl)).arg1 (enc := enc) (W := W) (fun _ => rfl) (by kernel_rfl) (hval 2 3 v2 rfl rfl) h2
  obtain ⟨a3, Q3, R3, _⟩ := (Reads.int Tryz.underlying3 (by kernel_rfl)).arg1 (enc := enc) (W := W) (fun _ => rfl) (by kernel_rfl) (hval 3 3 v3 rfl rfl) h3
  obtain ⟨a4, Q4, R4, _⟩ := (Reads.int Tryz.underlying3 (by kernel_rfl)).arg1 (enc := enc) (W := W) (fun _ => rfl) (by kernel_rfl) (hval 4 3 v4 rfl rfl) h4
  have hb : Rows.uptoBulkAll ([d0, d1, d2, d3, d4] ++ []) ≤ 1048576 := of_decide_eq_true (hcond _ rfl)
  simp only [List.append_nil, Rows.uptoBulkAll] at hb
  have s0 : a0.length ≤ 1048576 ∧ ∀ s ∈ a0, s.length ≤ 1048576 := by have := slq_small (f := List.length) Q0 (fun a x h => (slq_small (f := fun _ => 0) h (fun a x h => Nat.zero_le _)).1); exact ⟨by omega, fun s hs => by have := this.2 s hs; omega⟩
  have hlt : ∀ x ∈ (p0 ++ p1 ++ p2 ++ p3 ++ p4 : List MemPlace), True := fun _ _ => trivial
  refine (walk a0 a1 a2 a3 a4 v0 v1 v2 v3 v4 W hl R0 R1 R2 R3 R4 (by have := Go.Proofs.Tryz.Ai.soundLaw_eq a0 a1 a2 a3 a4 s0 []; exact this)).mono fun e W' ⟨he, bel⟩ => ?_
  subst he
  exact ⟨_, rfl, _, _, _, [], _, [], hW', trodAll_mk1 (shut_bool Tryz.underlying4 _), trodAll_keep laidOut bel readable hAk (fun x hx => by simpa using hW'.lt x (by simpa using hx)), rfl, bel.frame _, fun h => by cases h⟩

noncomputable def laidWorld (os : Os) : World := World.laidAll Tryz.prog os Rows.tlogSoundUptoRow.laid
theorem laid_met (os : Os) : laidMet Tryz.prog Rows.tlogSoundUptoRow.laid ((laidWorld os).forCall (fun _ _ => 0) ⟨#[], #[.slice none 0 0, .int .i64 0, .int .i64 0, .int .i64 0, .int .i64 0], []⟩).memory :=
  laidMet_laidAll _ (by kernel_rfl) (by kernel_rfl)
theorem reads (os : Os) {H : Type} (enc : TypeId × Value → H) : ∃ places, DataW.whole enc Tryz.prog ((laidWorld os).forCall (fun _ _ => 0) ⟨#[], #[.slice none 0 0, .int .i64 0, .int .i64 0, .int .i64 0, .int .i64 0], []⟩).memory Tryz.f3.params.toList Rows.tlogSoundSpec.vars false (#[.slice none 0 0, .int .i64 0, .int .i64 0, .int .i64 0, .int .i64 0] : Array Value).toList 8 = some ([.nil, .lit (.int .i64 0), .lit (.int .i64 0), .lit (.int .i64 0), .lit (.int .i64 0)], [], places) :=
  ⟨[], by kernel_rfl⟩
theorem witness (os : Os) {H : Type} (enc : TypeId × Value → H) : ∃ (w : World) (tape : Tape) (i : Input), w.os = os ∧ (w.forCall tape i).Shaped Tryz.checked.prog ∧ i.vars = [] ∧ Input.okWide Tryz.checked.prog (w.forCall tape i) .any w.heap.size 3 i ∧
    (Rows.OpenSpec.upto Rows.tlogSoundSpec).preRow enc Tryz.checked.prog Tryz.f3 Rows.tlogSoundUptoRow.domain false Rows.tlogSoundUptoRow.laid (w.forCall tape i).memory i.args ∧ ({} : Assume).holds Tryz.checked.prog (lone (Frame.enter Tryz.checked.prog 3 i.args .normal) [] (w.forCall tape i)) := by
  obtain ⟨places, hx⟩ := reads os enc
  have hok : Input.okWideB Tryz.checked.prog ((laidWorld os).forCall (fun _ _ => 0) ⟨#[], #[.slice none 0 0, .int .i64 0, .int .i64 0, .int .i64 0, .int .i64 0], []⟩) 3 ⟨#[], #[.slice none 0 0, .int .i64 0, .int .i64 0, .int .i64 0, .int .i64 0], []⟩ = true := by kernel_rfl
  exact ⟨laidWorld os, fun _ _ => 0, ⟨#[], #[.slice none 0 0, .int .i64 0, .int .i64 0, .int .i64 0, .int .i64 0], []⟩, World.laidAll_os _ _ _, World.shaped_of_ZipB (by kernel_rfl) (by kernel_rfl), (Input.okWide_of_okWideB (base := 0) hok).1, (Input.okWide_of_okWideB hok).2,
    OpenSpec.preRow_of_cond 8 hx (by kernel_rfl) (fun k hk => by have e : k = Rows.uptoSmall := (Option.some.inj (show some Rows.uptoSmall = some k from hk)).symm; rw [e]; simp [Rows.uptoSmall, Rows.uptoBulkAll, Rows.uptoBulk]) (by kernel_rfl) (laid_met os), by
    simp only [Assume.holds]
    exact ⟨by simp, by simp, fun _ => Modest.zero, by simp, by simp⟩⟩

set_option maxRecDepth 100000 in
theorem lifted (os : Os) (started : os.Started) (H : Type) (enc : TypeId × Value → H) (F : Stop.Interp) :
    ReturnsInHanded {} Tryz.checked os 3 .any ((Rows.OpenSpec.upto Rows.tlogSoundSpec).preRow enc Tryz.prog Tryz.f3 Rows.tlogSoundUptoRow.domain false Rows.tlogSoundUptoRow.laid) (((Rows.OpenSpec.upto Rows.tlogSoundSpec).at F).post enc Tryz.prog Tryz.f3 false true false false) := by
  refine returnsInHanded_of_row (C := Tryz.checked) (s := (Rows.OpenSpec.upto Rows.tlogSoundSpec)) own started (by kernel_rfl) Tryz.func3 (witness os enc) ?_
  intro W base args ds gs before hval hW _ hcond _ hL hsh _
  exact contract H enc W base args ds gs before hval hW hcond (all_of (by rw [← MakeChecks.laidMetH_plain _ _ _ (by kernel_rfl)]; exact hL) hsh)

theorem said : Rows.TlogSoundUptoSaid :=
  OpenClaim.holds_of_cond 3 Tryz.f3 rfl rfl rfl rfl rfl rfl rfl ⟨rfl, rfl, rfl, rfl, rfl⟩ rfl rfl rfl rfl rfl (by kernel_rfl) Tryz.func3 (by kernel_rfl)
    (of_decide_eq_true (by kernel_rfl)) (by unfold Func.isWrapper; first | (rw [if_pos (by decide +kernel)]; kernel_rfl) | (rw [if_neg (by decide +kernel)]; exact ⟨rfl, rfl⟩))
    (fun os started H enc _ F => by rw [OpenClaim.pre_eq_preRow]; exact lifted os started H enc F)

theorem plain (f : FuncId) (fn : Func) (hf : Tryz.pinned.checked.prog.funcNamed "mews/mewslaw7.TlogSound" = some f) (hfn : Tryz.pinned.checked.prog.funcs[f]? = some fn) :
    true = Tryz.pinned.checked.prog.looks [] ∧ ∀ (j : Nat) t, fn.params[j]? = some t → Tryz.pinned.checked.prog.wantsStandIn t = false := by
  obtain rfl : f = 3 := Option.some.inj ((show Tryz.prog.funcNamed "mews/mewslaw7.TlogSound" = some 3 by kernel_rfl).symm.trans hf) |>.symm
  obtain rfl : fn = Tryz.f3 := (Option.some.inj (Tryz.func3.symm.trans hfn)).symm
  refine ⟨by kernel_rfl, fun j t ht => ?_⟩
  have hm : t ∈ Tryz.f3.params.toList := Array.mem_toList_iff.2 (Array.mem_of_getElem? ht)
  rw [Tryz.params3] at hm
  simp only [List.mem_cons, List.mem_nil_iff, or_false] at hm
  rcases hm with rfl | rfl | rfl | rfl | rfl
  · exact (show Tryz.prog.wantsStandIn 22 = false by kernel_rfl)
  · exact (show Tryz.prog.wantsStandIn 3 = false by kernel_rfl)
  · exact (show Tryz.prog.wantsStandIn 3 = false by kernel_rfl)
  · exact (show Tryz.prog.wantsStandIn 3 = false by kernel_rfl)
  · exact (show Tryz.prog.wantsStandIn 3 = false by kernel_rfl)

/-- the card -/
theorem card : Rows.TlogSoundUptoCardSaid :=
  Claim7.holds_tied_plain_at .later [] _ _ _ _ said (fun _ h => by cases h) (by kernel_rfl) (fun _ h => by cases h) tlogSoundUpto_row_tie rfl ⟨rfl, rfl⟩ (by kernel_rfl) rfl plain (by kernel_rfl)
end Go.Proofs.YtmikahmnomfacaaGreatDoor.tlogSound
end
