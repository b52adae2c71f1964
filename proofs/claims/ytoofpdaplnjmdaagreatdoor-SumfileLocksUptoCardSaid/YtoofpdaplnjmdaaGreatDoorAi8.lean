/- Part 8 of a proof: a Go function is evaluated on abstract values (texts LLocks .. FLocks); no conditions beyond those of each theorem. -/
import Derived.Test.YtoofpdaplnjmdaaGreatDoorAi7
import Derived.Test.YtoofpdaplnjmdaaGreatDoorRows
import Derived.Test.YtoofpdaplnjmdaaGreatDoorCards
import Derived.Test.YtoofpdaplnjmdaaGreatDoorTie
import Derived.WalkKit
import Derived.ProofKit
import Derived.OpenShut
import Derived.Below
import Derived.ChangeOld
import Derived.Deep.DeepHandedRow
import Derived.Lib.LaidTab
import Derived.Lay
import Derived.MakeChecks
set_option linter.all false
set_option linter.unusedVariables false
set_option linter.unusedSimpArgs false
set_option linter.unnecessarySimpa false
section
/- SumfileLocks: the evaluation. -/
namespace Go.Proofs.Tryz.Ai
open Go Go.AI Go.Proofs Go.B64
set_option maxHeartbeats 8000000
set_option maxRecDepth 4000
set_option linter.unusedVariables false

theorem parseP_len (text : List UInt8) : (parseP text).1.length ≤ text.length + 1 := by
  unfold parseP
  split
  · simp
  · cases hq : linesP lineR [] 0 (splitB 10 text) with
    | inl l =>
      have hll := linesP_len lineR_len _ _ _ _ hq
      have hm := splitB_many 10 text
      simp only [isrt_len]
      simp at hll; omega
    | inr r => obtain ⟨n, e⟩ := r; simp
theorem locksLaw0 (text : List UInt8) (l : List Ln) (s : List UInt8) (hl : l.length ≤ 2 ^ 20) (h : ∀ x ∈ l, lnS x) (σ : List (List AV)) : ev 5 [.str text, .sl .sh (l.map lnF), .str s] σ = some (.bool true, σ) := by
  have hF := first_eq
  have hfew := fun σ => few_eq l (by omega) (fun x hx => by obtain ⟨h1, h2, h3⟩ := h x hx; exact ⟨by omega, by omega, by omega⟩) σ
  obtain ⟨b, hb, hb2⟩ := hfew σ
  refine EV_post rfl Tryz.func5 rfl (by simp [Tryz.ntmps5]) (by kernel_rfl) (by kernel_rfl) ?_
  cases b with
  | false => simp (maxSteps := 4000000) [List.getElem?_cons_zero, List.getElem?_cons_succ, hF, hb, Tryz.results5]
  | true =>
    have hl100 := hb2 rfl
    by_cases c1 : 8000 < text.length
    · simp (maxSteps := 4000000) [List.getElem?_cons_zero, List.getElem?_cons_succ, hF, hb, c1, Tryz.results5]
    by_cases c2 : 8000 < s.length
    · simp (maxSteps := 4000000) [List.getElem?_cons_zero, List.getElem?_cons_succ, hF, hb, c1, c2, Tryz.results5]
    have hP1 := Parse_eq text (by omega)
    have hP2 := rParse_eq text (by omega)
    have hpl := parseP_len text
    have hS := SameLines_eq (parseP text).1 (parseP text).1 (by omega)
    have hS2 := SameLines_eq l l (by omega)
    have hf1 := Format_eq l (by omega) h
    have hf2 := rFormat_eq l (by omega) h
    have hLn := Lines_eq l (by omega)
    have hV1 := ValidSum_eq s (by omega)
    have hV2 := rValidSum_eq s (by omega)
    have hN := fun e => Num_eq e
    have hall : allCells 4 (l.map lnF) := by simp
    have hm : (l.map lnF).length ≤ most := by rw [List.length_map]; unfold most; omega
    obtain ⟨P, hP⟩ : ∃ P, (parseP text).1.map lnF = P := ⟨_, rfl⟩
    obtain ⟨n, hn⟩ : ∃ n, (parseP text).2.1 = n := ⟨_, rfl⟩
    obtain ⟨e, he⟩ : ∃ e, (parseP text).2.2 = e := ⟨_, rfl⟩
    obtain ⟨t, ht⟩ : ∃ e, (fmtP l).1 = e := ⟨_, rfl⟩
    obtain ⟨f, hf⟩ : ∃ e, (fmtP l).2 = e := ⟨_, rfl⟩
    obtain ⟨v, hv⟩ : ∃ e, sumB s = e := ⟨_, rfl⟩
    have e1 : decide ((parseP text).1 = (parseP text).1) = true := by simp
    have e2 : decide (l = l) = true := by simp
    have e3 : (v == v) = true := by simp
    have e4 : (t == t) = true := by simp
    rw [hP, hn, he] at hP1 hP2
    rw [hP, e1] at hS
    rw [e2] at hS2
    rw [ht, hf] at hf1 hf2
    rw [hv] at hV1 hV2
    obtain ⟨L, hL⟩ : ∃ L, l.map lnF = L := ⟨_, rfl⟩
    rw [hL] at hb hf1 hf2 hS2 hLn hall hm ⊢
    simp (maxSteps := 4000000) [List.getElem?_cons_zero, List.getElem?_cons_succ, hF, hb, c1, c2, hP1, hP2, hS, hS2, hf1, hf2, hLn, hV1, hV2, hN, hall, hm, e3, e4, Tryz.results5]
theorem locksLaw_eq (text : List UInt8) (l : List Ln) (s : List UInt8) (h1 : text.length ≤ 1048576) (h2 : l.length ≤ 1048576 ∧ ∀ m ∈ l, m.1.1.length ≤ 1048576 ∧ m.1.2.length ≤ 1048576 ∧ m.2.2.length ≤ 1048576) (h3 : s.length ≤ 1048576) (σ : List (List AV)) : ev 5 [.str text, .sl .sh (l.map fun m => .agg [.str m.1.1, .str m.1.2, .int .i64 m.2.1, .str m.2.2]), .str s] σ = some (.bool true, σ) :=
  locksLaw0 text l s h2.1 (fun x hx => h2.2 x hx) σ
end Go.Proofs.Tryz.Ai
end
section
/- The bulk of what came in. -/
namespace Go.Proofs.YtoofpdaplnjmdaaGreatDoor
open Go Go.AI
set_option linter.unusedVariables false
section
variable {H : Type}
theorem bulk_pos (d : DataW H) : 1 ≤ Rows.uptoBulk d := by
  cases d with
  | lit l => cases l <;> simp [Rows.uptoBulk]
  | _ => simp [Rows.uptoBulk]
theorem bulk_all (ds : List (DataW H)) : ds.length ≤ Rows.uptoBulkAll ds ∧ ∀ d ∈ ds, Rows.uptoBulk d ≤ Rows.uptoBulkAll ds := by
  induction ds with
  | nil => simp
  | cons d r ih =>
    have := bulk_pos d
    simp only [Rows.uptoBulkAll, List.length_cons, List.mem_cons]
    refine ⟨by omega, ?_⟩
    rintro x (rfl | hx)
    · omega
    · have := ih.2 x hx; omega
theorem small_str {s : List UInt8} {d : DataW H} (h : d = .lit (.string s) ∧ s.length ≤ maxLen) : s.length ≤ Rows.uptoBulk d := by
  rw [h.1]; simp [Rows.uptoBulk]
theorem slq_small {α : Type} {Q : α → DataW H → Prop} {f : α → Nat} {l : List α} {d : DataW H} (h : slQ Q l d) (hf : ∀ a x, Q a x → f a ≤ Rows.uptoBulk x) : l.length ≤ Rows.uptoBulk d ∧ ∀ a ∈ l, f a ≤ Rows.uptoBulk d := by
  rcases h with ⟨rfl, rfl⟩ | ⟨ds, rest, rfl, hl, _, hq⟩
  · simp
  · simp only [Rows.uptoBulk]
    have := bulk_all ds
    refine ⟨by omega, fun a ha => ?_⟩
    obtain ⟨i, hi⟩ := List.mem_iff_getElem?.1 ha
    have hlt := (List.getElem?_eq_some_iff.1 hi).1
    obtain ⟨x, hx⟩ : ∃ x, ds[i]? = some x := ⟨_, List.getElem?_eq_getElem (by omega)⟩
    have h1 := hf a x (hq i a x hi hx)
    have h2 := this.2 x (List.mem_of_getElem? hx)
    omega
theorem small_mod {m : List UInt8 × List UInt8} {d : DataW H} (h : st2Q (fun s d => d = .lit (.string s) ∧ s.length ≤ maxLen) (fun s d => d = .lit (.string s) ∧ s.length ≤ maxLen) m d) : m.1.length + m.2.length ≤ Rows.uptoBulk d := by
  obtain ⟨d0, d1, rfl, q0, q1⟩ := h
  have := small_str q0
  have := small_str q1
  simp only [Rows.uptoBulk, Rows.uptoBulkAll]; omega
theorem small_line {m : (List UInt8 × List UInt8) × Int × List UInt8} {d : DataW H} (h : st3Q (st2Q (fun s d => d = .lit (.string s) ∧ s.length ≤ maxLen) (fun s d => d = .lit (.string s) ∧ s.length ≤ maxLen)) (fun (n : Int) d => d = .lit (.int .i64 n) ∧ (Lit.int .i64 n).wf = true) (fun s d => d = .lit (.string s) ∧ s.length ≤ maxLen) m d) : m.1.1.length + m.1.2.length + m.2.2.length ≤ Rows.uptoBulk d := by
  obtain ⟨d0, d1, d2, rfl, q0, q1, q2⟩ := h
  have := small_mod q0
  have := small_str q2
  simp only [Rows.uptoBulk, Rows.uptoBulkAll]; omega
end
end Go.Proofs.YtoofpdaplnjmdaaGreatDoor
end
section
/- The frame of SumfileLocks: from the evaluation to the given statement. -/
namespace Go.Proofs.YtoofpdaplnjmdaaGreatDoor.sumfileLocks
open Go Go.AI Go.ChangeShapes Go.WideShapes Go.ChangeAt Go.RowKit
set_option linter.unusedVariables false

theorem own : ownKnob Tryz.prog.godebug = none := by kernel_rfl
theorem mixed : Tryz.prog.follows .mixedOrders = true := by kernel_rfl
theorem laidOut : laidOutB Tryz.prog = true := by kernel_rfl

theorem walk (a0 : List UInt8) (a1 : List ((List UInt8 × List UInt8) × Int × List UInt8)) (a2 : List UInt8) (v0 v1 v2 : Value) (W : World) (hl : Go.Proofs.Tryz.Ai.LaidAll W) (r0 : Rep W.heap.size gh0 W v0 (.str a0)) (r1 : Rep W.heap.size gh0 W v1 (.sl .sh (a1.map fun m => .agg [.str m.1.1, .str m.1.2, .int .i64 m.2.1, .str m.2.2]))) (r2 : Rep W.heap.size gh0 W v2 (.str a2))
    (he : Go.Proofs.Tryz.Ai.ev 5 [.str a0, .sl .sh (a1.map fun m => .agg [.str m.1.1, .str m.1.2, .int .i64 m.2.1, .str m.2.2]), .str a2] [] = some (.bool true, [])) :
    Calls Tryz.prog 5 #[v0, v1, v2] W fun e w' => e = .returned (.bool true) ∧ Below W.heap.size W w' :=
  Go.AI.top (s' := []) mixed rfl (Go.Proofs.Tryz.Ai.T_ok hl) (by rfl)
    (fun j c h => by
      match j, h with
      | 0, h => simp at h; subst h; exact ⟨r0, rfl, rfl⟩
      | 1, h => simp at h; subst h; exact ⟨r1, rfl, rfl⟩
      | 2, h => simp at h; subst h; exact ⟨r2, rfl, rfl⟩
      | j + 3, h => simp at h)
    he

/-- the table of powers, as the row lays it -/
theorem laid_of {W : World} (hL : laidMet Tryz.prog Rows.sumfileLocksUptoRow.laid W) : Go.Proofs.Tryz.Ai.Laid W :=
  tabIs_of_mem (g := 5) (t := 260) (e := 226) (n := 20) (by
    have : ("internal/strconv.uint64pow10", Rows.laid_internal_strconv_uint64pow10) ∈ Rows.sumfileLocksUptoRow.laid := by simp [Rows.sumfileLocksUptoRow]
    have e : (Rows.laid_internal_strconv_uint64pow10 : DataW Unit) = Lib.tabData .u64 Lib.pow10Tab := by kernel_rfl
    rw [e] at this; exact this) (by kernel_rfl) (by kernel_rfl) Tryz.underlying260 Tryz.underlying226 (by kernel_rfl) (by kernel_rfl) hL

/-- what a row lays, and what each world has -/
theorem all_of {W : World} (hL : laidMet Tryz.prog Rows.sumfileLocksUptoRow.laid W) (hsh : W.ShapedOpen Tryz.prog) : Go.Proofs.Tryz.Ai.LaidAll W where
  tab := laid_of hL
  max := Go.Proofs.Tryz.Ai.maxLen_of hsh
  esyn := Go.Proofs.Tryz.Ai.errAt_of (g := 3) (Go.Proofs.Tryz.Ai.laidMet_drop 5 hL) (by kernel_rfl) (by kernel_rfl)
  eran := Go.Proofs.Tryz.Ai.errAt_of (g := 4) (Go.Proofs.Tryz.Ai.laidMet_drop 4 hL) (by kernel_rfl) (by kernel_rfl)

theorem readable : ∀ t ∈ Tryz.f5.params.toList, Tryz.prog.readableRec t = true ∧ t < Tryz.prog.types.size := by
  rw [Tryz.params5]
  intro t ht
  simp only [List.mem_cons, List.mem_nil_iff, or_false] at ht
  rcases ht with rfl | rfl | rfl <;> exact ⟨by kernel_rfl, of_decide_eq_true (by kernel_rfl)⟩

set_option maxRecDepth 100000 in
theorem contract (H : Type) (enc : TypeId × Value → H) (W : World) (base : Nat) (args : Array Value) (ds gs : List (DataW H)) (before : List MemPlace)
    (hval : ∀ (j : Nat) t v, Tryz.f5.params[j]? = some t → args[j]? = some v → Value.okWide Tryz.prog W .any base t v)
    (hW : DataW.Whole enc Tryz.prog Tryz.f5.params.toList Rows.sumfileLocksSpec.vars false W args.toList ds gs before) (hcond : ∀ k, (Rows.OpenSpec.upto Rows.sumfileLocksSpec).cond = some k → k H (ds ++ gs) = true) (hl : Go.Proofs.Tryz.Ai.LaidAll W) :
    Calls Tryz.prog 5 args W fun e W' => ∃ v, e = .returned v ∧ Rows.sumfileLocksSpec.post enc Tryz.prog Tryz.f5 false true false false W args v W' := by
  have hW' := hW
  obtain ⟨p, q, hA0, hV, rfl, hfz, hnd⟩ := hW
  have hA : DataW.TrodAll enc Tryz.prog W 0 (fun _ => true) true Tryz.f5.params.toList args.toList ds p := hA0
  have hAk := hA
  rw [Tryz.params5] at hA hval
  obtain ⟨v0, vs0, d0, ds0, p0, q0, hargs0, rfl, rfl, h0, r0⟩ := trodAll_cons hA
  obtain ⟨v1, vs1, d1, ds1, p1, q1, hargs1, rfl, rfl, h1, r1⟩ := trodAll_cons r0
  obtain ⟨v2, vs2, d2, ds2, p2, q2, hargs2, rfl, rfl, h2, r2⟩ := trodAll_cons r1
  obtain ⟨e1, e2, e3⟩ := trodAll_nil r2
  obtain rfl : args = #[v0, v1, v2] := by cases args; simp_all
  subst e2 e3
  obtain ⟨rfl, rfl⟩ := trodVars_none hV
  obtain ⟨a0, Q0, R0, _⟩ := (Reads.str Tryz.underlying9 (by kernel_rfl)).arg1 (enc := enc) (W := W) (fun _ => rfl) (by kernel_rfl) (hval 0 9 v0 rfl rfl) h0
  obtain ⟨a1, Q1, R1, _⟩ := (Reads.slice (Reads.struct3 (Reads.struct2 (Reads.str Tryz.underlying9 (by kernel_rfl)) (Reads.str Tryz.underlying9 (by kernel_rfl)) Tryz.underlying24 (by rfl) (by kernel_rfl) (by kernel_rfl)) (Reads.int Tryz.underlying3 (by kernel_rfl)) (Reads.str Tryz.underlying9 (by kernel_rfl)) Tryz.underlying42 (by rfl) (by kernel_rfl) (by kernel_rfl) (by kernel_rfl)) Tryz.underlying22 (by kernel_rfl)).arg1 (enc := enc) (W := W) (fun _ => rfl) (by kernel_rfl) (hval 1 22 v1 rfl rfl) h1
  obtain ⟨a2, Q2, R2, _⟩ := (Reads.str Tryz.underlying9 (by kernel_rfl)).arg1 (enc := enc) (W := W) (fun _ => rfl) (by kernel_rfl) (hval 2 9 v2 rfl rfl) h2
  have hb : Rows.uptoBulkAll ([d0, d1, d2] ++ []) ≤ 1048576 := of_decide_eq_true (hcond _ rfl)
  simp only [List.append_nil, Rows.uptoBulkAll] at hb
  have s0 : a0.length ≤ 1048576 := by have := small_str Q0; omega
  have s1 : a1.length ≤ 1048576 ∧ ∀ m ∈ a1, m.1.1.length ≤ 1048576 ∧ m.1.2.length ≤ 1048576 ∧ m.2.2.length ≤ 1048576 := by have := slq_small (f := fun m => m.1.1.length + m.1.2.length + m.2.2.length) Q1 (fun a x h => small_line h); exact ⟨by omega, fun s hs => by have := this.2 s hs; omega⟩
  have s2 : a2.length ≤ 1048576 := by have := small_str Q2; omega
  have hlt : ∀ x ∈ (p0 ++ p1 ++ p2 : List MemPlace), True := fun _ _ => trivial
  refine (walk a0 a1 a2 v0 v1 v2 W hl R0 R1 R2 (by have := Go.Proofs.Tryz.Ai.locksLaw_eq a0 a1 a2 s0 s1 s2 []; exact this)).mono fun e W' ⟨he, bel⟩ => ?_
  subst he
  exact ⟨_, rfl, _, _, _, [], _, [], hW', trodAll_mk1 (shut_bool Tryz.underlying4 _), trodAll_keep laidOut bel readable hAk (fun x hx => by simpa using hW'.lt x (by simpa using hx)), rfl, bel.frame _, fun h => by cases h⟩

noncomputable def laidWorld (os : Os) : World := World.laidAll Tryz.prog os Rows.sumfileLocksUptoRow.laid
theorem laid_met (os : Os) : laidMet Tryz.prog Rows.sumfileLocksUptoRow.laid ((laidWorld os).forCall (fun _ _ => 0) ⟨#[], #[.string ⟨#[]⟩, .slice none 0 0, .string ⟨#[]⟩], []⟩).memory :=
  laidMet_laidAll _ (by kernel_rfl) (by kernel_rfl)
theorem reads (os : Os) {H : Type} (enc : TypeId × Value → H) : ∃ places, DataW.whole enc Tryz.prog ((laidWorld os).forCall (fun _ _ => 0) ⟨#[], #[.string ⟨#[]⟩, .slice none 0 0, .string ⟨#[]⟩], []⟩).memory Tryz.f5.params.toList Rows.sumfileLocksSpec.vars false (#[.string ⟨#[]⟩, .slice none 0 0, .string ⟨#[]⟩] : Array Value).toList 8 = some ([.lit (.string []), .nil, .lit (.string [])], [], places) :=
  ⟨[], by kernel_rfl⟩
theorem witness (os : Os) {H : Type} (enc : TypeId × Value → H) : ∃ (w : World) (tape : Tape) (i : Input), w.os = os ∧ (w.forCall tape i).Shaped Tryz.checked.prog ∧ i.vars = [] ∧ Input.okWide Tryz.checked.prog (w.forCall tape i) .any w.heap.size 5 i ∧
    (Rows.OpenSpec.upto Rows.sumfileLocksSpec).preRow enc Tryz.checked.prog Tryz.f5 Rows.sumfileLocksUptoRow.domain false Rows.sumfileLocksUptoRow.laid (w.forCall tape i).memory i.args ∧ ({} : Assume).holds Tryz.checked.prog (lone (Frame.enter Tryz.checked.prog 5 i.args .normal) [] (w.forCall tape i)) := by
  obtain ⟨places, hx⟩ := reads os enc
  have hok : Input.okWideB Tryz.checked.prog ((laidWorld os).forCall (fun _ _ => 0) ⟨#[], #[.string ⟨#[]⟩, .slice none 0 0, .string ⟨#[]⟩], []⟩) 5 ⟨#[], #[.string ⟨#[]⟩, .slice none 0 0, .string ⟨#[]⟩], []⟩ = true := by kernel_rfl
  exact ⟨laidWorld os, fun _ _ => 0, ⟨#[], #[.string ⟨#[]⟩, .slice none 0 0, .string ⟨#[]⟩], []⟩, World.laidAll_os _ _ _, World.shaped_of_ZipB (by kernel_rfl) (by kernel_rfl), (Input.okWide_of_okWideB (base := 0) hok).1, (Input.okWide_of_okWideB hok).2,
    OpenSpec.preRow_of_cond 8 hx (by kernel_rfl) (fun k hk => by have e : k = Rows.uptoSmall := (Option.some.inj (show some Rows.uptoSmall = some k from hk)).symm; rw [e]; simp [Rows.uptoSmall, Rows.uptoBulkAll, Rows.uptoBulk]) (by kernel_rfl) (laid_met os), by
    simp only [Assume.holds]
    exact ⟨by simp, by simp, fun _ => Modest.zero, by simp, by simp⟩⟩

set_option maxRecDepth 100000 in
theorem lifted (os : Os) (started : os.Started) (H : Type) (enc : TypeId × Value → H) (F : Stop.Interp) :
    ReturnsInHanded {} Tryz.checked os 5 .any ((Rows.OpenSpec.upto Rows.sumfileLocksSpec).preRow enc Tryz.prog Tryz.f5 Rows.sumfileLocksUptoRow.domain false Rows.sumfileLocksUptoRow.laid) (((Rows.OpenSpec.upto Rows.sumfileLocksSpec).at F).post enc Tryz.prog Tryz.f5 false true false false) := by
  refine returnsInHanded_of_row (C := Tryz.checked) (s := (Rows.OpenSpec.upto Rows.sumfileLocksSpec)) own started (by kernel_rfl) Tryz.func5 (witness os enc) ?_
  intro W base args ds gs before hval hW _ hcond _ hL hsh _
  exact contract H enc W base args ds gs before hval hW hcond (all_of (by rw [← MakeChecks.laidMetH_plain _ _ _ (by kernel_rfl)]; exact hL) hsh)

theorem said : Rows.SumfileLocksUptoSaid :=
  OpenClaim.holds_of_cond 5 Tryz.f5 rfl rfl rfl rfl rfl rfl rfl ⟨rfl, rfl, rfl, rfl, rfl⟩ rfl rfl rfl rfl rfl (by kernel_rfl) Tryz.func5 (by kernel_rfl)
    (of_decide_eq_true (by kernel_rfl)) (by unfold Func.isWrapper; first | (rw [if_pos (by decide +kernel)]; kernel_rfl) | (rw [if_neg (by decide +kernel)]; exact ⟨rfl, rfl⟩))
    (fun os started H enc _ F => by rw [OpenClaim.pre_eq_preRow]; exact lifted os started H enc F)

theorem plain (f : FuncId) (fn : Func) (hf : Tryz.pinned.checked.prog.funcNamed "mews/mewslaw5.SumfileLocks" = some f) (hfn : Tryz.pinned.checked.prog.funcs[f]? = some fn) :
    true = Tryz.pinned.checked.prog.looks [] ∧ ∀ (j : Nat) t, fn.params[j]? = some t → Tryz.pinned.checked.prog.wantsStandIn t = false := by
  obtain rfl : f = 5 := Option.some.inj ((show Tryz.prog.funcNamed "mews/mewslaw5.SumfileLocks" = some 5 by kernel_rfl).symm.trans hf) |>.symm
  obtain rfl : fn = Tryz.f5 := (Option.some.inj (Tryz.func5.symm.trans hfn)).symm
  refine ⟨by kernel_rfl, fun j t ht => ?_⟩
  have hm : t ∈ Tryz.f5.params.toList := Array.mem_toList_iff.2 (Array.mem_of_getElem? ht)
  rw [Tryz.params5] at hm
  simp only [List.mem_cons, List.mem_nil_iff, or_false] at hm
  rcases hm with rfl | rfl | rfl
  · exact (show Tryz.prog.wantsStandIn 9 = false by kernel_rfl)
  · exact (show Tryz.prog.wantsStandIn 22 = false by kernel_rfl)
  · exact (show Tryz.prog.wantsStandIn 9 = false by kernel_rfl)

/-- the card -/
theorem card : Rows.SumfileLocksUptoCardSaid :=
  Claim7.holds_tied_plain_at .later [] _ _ _ _ said (fun _ h => by cases h) (by kernel_rfl) (fun _ h => by cases h) sumfileLocksUpto_row_tie rfl ⟨rfl, rfl⟩ (by kernel_rfl) rfl plain (by kernel_rfl)
end Go.Proofs.YtoofpdaplnjmdaaGreatDoor.sumfileLocks
end
