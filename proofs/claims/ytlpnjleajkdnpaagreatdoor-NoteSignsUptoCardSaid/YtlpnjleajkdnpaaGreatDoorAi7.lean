/- Part 7 of a proof: a Go function is evaluated on abstract values (texts LSigns .. FSigns); no conditions beyond those of each theorem. -/
import Derived.Test.YtlpnjleajkdnpaaGreatDoorAi6
import Derived.Test.YtlpnjleajkdnpaaGreatDoorRows
import Derived.Test.YtlpnjleajkdnpaaGreatDoorCards
import Derived.Test.YtlpnjleajkdnpaaGreatDoorTie
import Derived.WalkKit
import Derived.ProofKit
import Derived.OpenShut
import Derived.Below
import Derived.ChangeOld
import Derived.Deep.DeepHandedRow
import Derived.Lib.LaidTab
import Derived.Lay
import Derived.MakeChecks
set_option linter.all false
set_option linter.unusedVariables false
set_option linter.unusedSimpArgs false
set_option linter.unnecessarySimpa false
section
/- NoteSigns: the evaluation. -/
namespace Go.Proofs.Tryz.Ai
open Go Go.AI Go.Proofs Go.B64
set_option maxHeartbeats 4000000
set_option maxRecDepth 4000
set_option linter.unusedVariables false

theorem signsLaw0 (text : List UInt8) (l : List (List UInt8 × List UInt8)) (sig : List UInt8) (hs : text.length ≤ 2 ^ 24) (hl : l.length ≤ 2 ^ 29) (hg : sig.length ≤ 2 ^ 30) (h : ∀ k ∈ l, k.1.length ≤ 2 ^ 20 ∧ k.2.length ≤ 2 ^ 20) (σ : List (List AV)) : ev 3 [.str text, .sl .sh (l.map rkeyF), .sl .sh (sig.map .u8)] σ = some (.bool true, σ) := by
  have hF := first_eq
  obtain ⟨b, hfew, hb⟩ := few_eq l (by omega) (fun x hx => by have := h x hx; omega) σ
  have hKe := Keys_eq l (by omega) h σ
  obtain ⟨G, hG0⟩ : ∃ G, keysG l = G := ⟨_, rfl⟩
  have hGl : G.length ≤ l.length := by rw [← hG0]; exact List.length_filter_le ..
  have hG : ∀ k ∈ G, k.1.length ≤ 2 ^ 20 ∧ k.2.length ≤ 2 ^ 20 := fun k hk => by rw [← hG0] at hk; exact h k (List.mem_filter.1 hk).1
  rw [hG0] at hKe
  have hKm : (G.map fun k => keyF (hK k)) = (G.map hK).map keyF := by rw [List.map_map]; rfl
  rw [hKm] at hKe
  have hN : ∀ n σ, ev 13 [.int .i64 n] σ = some (.int .i64 n, σ) := fun n σ => Num_eq n σ
  refine EV_post rfl Tryz.func3 rfl (by simp [Tryz.ntmps3]) (by kernel_rfl) (by kernel_rfl) ?_
  cases b with
  | false =>
    simp (maxSteps := 4000000) [List.getElem?_cons_zero, List.getElem?_cons_succ, hF, hfew, Tryz.results3]
  | true =>
    have hll := hb rfl
    by_cases h8 : 4000 < text.length
    · simp (maxSteps := 4000000) [List.getElem?_cons_zero, List.getElem?_cons_succ, hF, hfew, h8, Tryz.results3]
    by_cases h9 : 4000 < sig.length
    · simp (maxSteps := 4000000) [List.getElem?_cons_zero, List.getElem?_cons_succ, hF, hfew, h8, h9, Tryz.results3]
    have hkS : ∀ k ∈ G.map hK, k.1.length ≤ 2 ^ 20 ∧ k.2.length ≤ 2 ^ 20 := by
      intro k hk
      obtain ⟨x, hx, rfl⟩ := List.mem_map.1 hk
      exact ⟨(hG x hx).1, by simp [Ai.hK, sha256_len]⟩
    have hS1 := NoteSign_eq text (G.map hK) hs (by simp; omega) hkS
    have hS2 := rSign_eq text G hs (by omega) hG
    obtain ⟨KF, hKF⟩ : ∃ KF, (G.map hK).map keyF = KF := ⟨_, rfl⟩
    obtain ⟨RF, hRF⟩ : ∃ RF, G.map rkeyF = RF := ⟨_, rfl⟩
    obtain ⟨⟨S, E⟩, hSE⟩ : ∃ r, sgn text (G.map hK) = r := ⟨_, rfl⟩
    rw [hKF, hSE] at hS1
    rw [hRF, hSE] at hS2
    rw [hKF, hRF] at hKe
    simp only at hS1 hS2
    have hKl : KF.length = G.length := by rw [← hKF]; simp
    simp (maxSteps := 4000000) [List.getElem?_cons_zero, List.getElem?_cons_succ, -Prod.forall, hF, hfew, h8, h9, hKe, hS1, hS2]
    refine Post_loop (I := fun i : Nat => ⟨[(0, .str text), (2, .sl .sh (sig.map .u8)), (9, .sl .sh KF), (10, .sl .sh RF), (12, .str S), (13, .int .i64 E), (14, .str S), (15, .int .i64 E), (16, .int .i64 i)], [], σ⟩) (Pr := fun i => i ≤ G.length) (μ := fun i => G.length - i) (a := 0) (by simp) (by simp) ?_
    intro i hi
    have w1 : IntKind.i64.wrap ((i : Int) + 1) = (i : Int) + 1 := wrap64 (by omega)
    by_cases hc : i < G.length
    · obtain ⟨k, hx⟩ : ∃ k, G[i]? = some k := ⟨_, List.getElem?_eq_getElem hc⟩
      have hkk := hG k (List.mem_of_getElem? hx)
      have hx1 : KF[i]? = some (keyAV k.1 (sha256 k.2)) := by rw [← hKF, List.getElem?_map, List.getElem?_map, hx]; rfl
      have hx2 : RF[i]? = some (rkeyAV k.1 k.2) := by rw [← hRF, List.getElem?_map, hx]; rfl
      have hSg := Sign_eq k.1 (sha256 k.2) text (by rw [sha256_len]; omega) hs
      have hSr := Sig_eq k.1 k.2 text hkk.2 hs
      have hV1 := Verify_eq k.1 (sha256 k.2) text (sigH (sha256 k.2) text) (by rw [sha256_len]; omega) hs
      have hV2 := Verify_eq k.1 (sha256 k.2) text sig (by rw [sha256_len]; omega) hs
      have hB1 := SameBytes_eq .sh .sh (sigH (sha256 k.2) text) (sigH (sha256 k.2) text) (by rw [sigH_len]; omega)
      have hB2 := SameBytes_eq .sh .sh sig (sigH (sha256 k.2) text) (by omega)
      obtain ⟨SG, hSG⟩ : ∃ s, sigH (sha256 k.2) text = s := ⟨_, rfl⟩
      rw [hSG] at hSg hSr hV1 hV2 hB1 hB2
      simp only [beq_self_eq_true] at hV1 hB1
      have hcm : (SG == sig) = (sig == SG) := by rw [Bool.eq_iff_iff, beq_iff_eq, beq_iff_eq]; exact ⟨fun e => e.symm, fun e => e.symm⟩
      rw [hcm] at hV2
      obtain ⟨eq, heq⟩ : ∃ b, (sig == SG) = b := ⟨_, rfl⟩
      rw [heq] at hV2 hB2
      obtain ⟨k1, k2⟩ := k
      simp only at hx1 hx2 hSg hSr hV1 hV2
      obtain ⟨hh, hhe⟩ : ∃ hh, sha256 k2 = hh := ⟨_, rfl⟩
      rw [hhe] at hx1 hSg hV1 hV2
      unfold keyAV at hx1 hSg hV1 hV2
      unfold rkeyAV at hx2 hSr
      have hcK : i < KF.length := by omega
      cases eq with
      | true =>
        simp (maxSteps := 4000000) [List.getElem?_cons_zero, List.getElem?_cons_succ, -getElem?_pos, -regionA_true, hKl, hc, hcK, hx1, hx2, hSg, hSr, hV1, hB1]
        refine Post_bndD [] _ (by rfl) (by simp (maxSteps := 4000000) [List.getElem?_cons_zero, List.getElem?_cons_succ, ]; exact rfl) ?_
        repeat (first
          | refine PostD_go _ (by rfl) (by rfl) (by simp (maxSteps := 4000000) [List.getElem?_cons_zero, List.getElem?_cons_succ, -getElem?_pos, hc, hx1, hx2, hSr, hV2, hB2]; exact rfl) (by first | exact .inl rfl | exact .inr rfl) (by rfl) ?_
          | refine PostD_no1 _ (by rfl) (by rfl) (by simp (maxSteps := 4000000) [List.getElem?_cons_zero, List.getElem?_cons_succ, ]; exact rfl) ?_)
        refine PostD_end ?_
        simp (maxSteps := 4000000) [List.getElem?_cons_zero, List.getElem?_cons_succ, w1]
        exact ⟨i + 1, by omega, by omega, by simp⟩
      | false =>
        simp (maxSteps := 4000000) [List.getElem?_cons_zero, List.getElem?_cons_succ, -getElem?_pos, -regionA_true, hKl, hc, hcK, hx1, hx2, hSg, hSr, hV1, hB1]
        refine Post_bndD [] _ (by rfl) (by simp (maxSteps := 4000000) [List.getElem?_cons_zero, List.getElem?_cons_succ, ]; exact rfl) ?_
        repeat (first
          | refine PostD_go _ (by rfl) (by rfl) (by simp (maxSteps := 4000000) [List.getElem?_cons_zero, List.getElem?_cons_succ, -getElem?_pos, hc, hx1, hx2, hSr, hV2, hB2]; exact rfl) (by first | exact .inl rfl | exact .inr rfl) (by rfl) ?_
          | refine PostD_no1 _ (by rfl) (by rfl) (by simp (maxSteps := 4000000) [List.getElem?_cons_zero, List.getElem?_cons_succ, ]; exact rfl) ?_)
        refine PostD_end ?_
        simp (maxSteps := 4000000) [List.getElem?_cons_zero, List.getElem?_cons_succ, w1]
        exact ⟨i + 1, by omega, by omega, by simp⟩
    · have e1 : (S == S) = true := by simp
      simp (maxSteps := 4000000) [List.getElem?_cons_zero, List.getElem?_cons_succ, hKl, hc, hN, e1, Tryz.results3]
theorem signsLaw_eq (text : List UInt8) (l : List (List UInt8 × List UInt8)) (sig : List UInt8) (hs : text.length ≤ 1048576) (h : l.length ≤ 1048576 ∧ ∀ m ∈ l, m.1.length ≤ 1048576 ∧ m.2.length ≤ 1048576) (hg : sig.length ≤ 1048576) (σ : List (List AV)) : ev 3 [.str text, .sl .sh (l.map rkeyF), .sl .sh (sig.map .u8)] σ = some (.bool true, σ) :=
  signsLaw0 text l sig (by omega) (by omega) (by omega) (fun k hk => by have := h.2 k hk; exact ⟨by omega, by omega⟩) σ
end Go.Proofs.Tryz.Ai
end
section
/- The bulk of what came in. -/
namespace Go.Proofs.YtlpnjleajkdnpaaGreatDoor
open Go Go.AI
set_option linter.unusedVariables false
section
variable {H : Type}
theorem bulk_pos (d : DataW H) : 1 ≤ Rows.uptoBulk d := by
  cases d with
  | lit l => cases l <;> simp [Rows.uptoBulk]
  | _ => simp [Rows.uptoBulk]
theorem bulk_all (ds : List (DataW H)) : ds.length ≤ Rows.uptoBulkAll ds ∧ ∀ d ∈ ds, Rows.uptoBulk d ≤ Rows.uptoBulkAll ds := by
  induction ds with
  | nil => simp
  | cons d r ih =>
    have := bulk_pos d
    simp only [Rows.uptoBulkAll, List.length_cons, List.mem_cons]
    refine ⟨by omega, ?_⟩
    rintro x (rfl | hx)
    · omega
    · have := ih.2 x hx; omega
theorem small_str {s : List UInt8} {d : DataW H} (h : d = .lit (.string s) ∧ s.length ≤ maxLen) : s.length ≤ Rows.uptoBulk d := by
  rw [h.1]; simp [Rows.uptoBulk]
theorem slq_small {α : Type} {Q : α → DataW H → Prop} {f : α → Nat} {l : List α} {d : DataW H} (h : slQ Q l d) (hf : ∀ a x, Q a x → f a ≤ Rows.uptoBulk x) : l.length ≤ Rows.uptoBulk d ∧ ∀ a ∈ l, f a ≤ Rows.uptoBulk d := by
  rcases h with ⟨rfl, rfl⟩ | ⟨ds, rest, rfl, hl, _, hq⟩
  · simp
  · simp only [Rows.uptoBulk]
    have := bulk_all ds
    refine ⟨by omega, fun a ha => ?_⟩
    obtain ⟨i, hi⟩ := List.mem_iff_getElem?.1 ha
    have hlt := (List.getElem?_eq_some_iff.1 hi).1
    obtain ⟨x, hx⟩ : ∃ x, ds[i]? = some x := ⟨_, List.getElem?_eq_getElem (by omega)⟩
    have h1 := hf a x (hq i a x hi hx)
    have h2 := this.2 x (List.mem_of_getElem? hx)
    omega
theorem small_mod {m : List UInt8 × List UInt8} {d : DataW H} (h : st2Q (fun s d => d = .lit (.string s) ∧ s.length ≤ maxLen) (fun s d => d = .lit (.string s) ∧ s.length ≤ maxLen) m d) : m.1.length + m.2.length ≤ Rows.uptoBulk d := by
  obtain ⟨d0, d1, rfl, q0, q1⟩ := h
  have := small_str q0
  have := small_str q1
  simp only [Rows.uptoBulk, Rows.uptoBulkAll]; omega
theorem small_pair {m : List UInt8 × List UInt8} {d : DataW H} (h : st2Q (fun s d => d = .lit (.string s) ∧ s.length ≤ maxLen) (slQ fun (n : UInt8) d => d = .lit (.int .u8 n.toNat)) m d) : m.1.length + m.2.length ≤ Rows.uptoBulk d := by
  obtain ⟨d0, d1, rfl, q0, q1⟩ := h
  have := small_str q0
  have := (slq_small (f := fun _ => 0) q1 (fun a x h => Nat.zero_le _)).1
  simp only [Rows.uptoBulk, Rows.uptoBulkAll]; omega
end
end Go.Proofs.YtlpnjleajkdnpaaGreatDoor
end
section
/- The frame of NoteSigns: from the evaluation to the given statement. -/
namespace Go.Proofs.YtlpnjleajkdnpaaGreatDoor.noteSigns
open Go Go.AI Go.ChangeShapes Go.WideShapes Go.ChangeAt Go.RowKit
set_option linter.unusedVariables false

theorem own : ownKnob Tryz.prog.godebug = none := by kernel_rfl
theorem mixed : Tryz.prog.follows .mixedOrders = true := by kernel_rfl
theorem laidOut : laidOutB Tryz.prog = true := by kernel_rfl

theorem walk (a0 : List UInt8) (a1 : List (List UInt8 × List UInt8)) (a2 : List UInt8) (v0 v1 v2 : Value) (W : World) (hl : Go.Proofs.Tryz.Ai.LaidAll W) (r0 : Rep W.heap.size gh0 W v0 (.str a0)) (r1 : Rep W.heap.size gh0 W v1 (.sl .sh (a1.map fun m => .agg [.str m.1, .sl .sh (m.2.map .u8)]))) (r2 : Rep W.heap.size gh0 W v2 (.sl .sh (a2.map .u8)))
    (he : Go.Proofs.Tryz.Ai.ev 3 [.str a0, .sl .sh (a1.map fun m => .agg [.str m.1, .sl .sh (m.2.map .u8)]), .sl .sh (a2.map .u8)] [] = some (.bool true, [])) :
    Calls Tryz.prog 3 #[v0, v1, v2] W fun e w' => e = .returned (.bool true) ∧ Below W.heap.size W w' :=
  Go.AI.top (s' := []) mixed rfl (Go.Proofs.Tryz.Ai.T_ok hl) (by rfl)
    (fun j c h => by
      match j, h with
      | 0, h => simp at h; subst h; exact ⟨r0, rfl, rfl⟩
      | 1, h => simp at h; subst h; exact ⟨r1, rfl, rfl⟩
      | 2, h => simp at h; subst h; exact ⟨r2, rfl, rfl⟩
      | j + 3, h => simp at h)
    he

/-- the table of powers, as the row lays it -/
theorem laid_of {W : World} (hL : laidMet Tryz.prog Rows.noteSignsUptoRow.laid W) : Go.Proofs.Tryz.Ai.Laid W :=
  tabIs_of_mem (g := 1) (t := 135) (e := 103) (n := 20) (by
    have : ("internal/strconv.uint64pow10", Rows.laid_internal_strconv_uint64pow10) ∈ Rows.noteSignsUptoRow.laid := by simp [Rows.noteSignsUptoRow]
    have e : (Rows.laid_internal_strconv_uint64pow10 : DataW Unit) = Lib.tabData .u64 Lib.pow10Tab := by kernel_rfl
    rw [e] at this; exact this) (by kernel_rfl) (by kernel_rfl) Tryz.underlying135 Tryz.underlying103 (by kernel_rfl) (by kernel_rfl) hL

/-- what a row lays, and what each world has -/
theorem all_of {W : World} (hL : laidMet Tryz.prog Rows.noteSignsUptoRow.laid W) (hsh : W.ShapedOpen Tryz.prog) : Go.Proofs.Tryz.Ai.LaidAll W where
  tab := laid_of hL
  max := Go.Proofs.Tryz.Ai.maxLen_of hsh

theorem readable : ∀ t ∈ Tryz.f3.params.toList, Tryz.prog.readableRec t = true ∧ t < Tryz.prog.types.size := by
  rw [Tryz.params3]
  intro t ht
  simp only [List.mem_cons, List.mem_nil_iff, or_false] at ht
  rcases ht with rfl | rfl | rfl <;> exact ⟨by kernel_rfl, of_decide_eq_true (by kernel_rfl)⟩

set_option maxRecDepth 100000 in
theorem contract (H : Type) (enc : TypeId × Value → H) (W : World) (base : Nat) (args : Array Value) (ds gs : List (DataW H)) (before : List MemPlace)
    (hval : ∀ (j : Nat) t v, Tryz.f3.params[j]? = some t → args[j]? = some v → Value.okWide Tryz.prog W .any base t v)
    (hW : DataW.Whole enc Tryz.prog Tryz.f3.params.toList Rows.noteSignsSpec.vars false W args.toList ds gs before) (hcond : ∀ k, (Rows.OpenSpec.upto Rows.noteSignsSpec).cond = some k → k H (ds ++ gs) = true) (hl : Go.Proofs.Tryz.Ai.LaidAll W) :
    Calls Tryz.prog 3 args W fun e W' => ∃ v, e = .returned v ∧ Rows.noteSignsSpec.post enc Tryz.prog Tryz.f3 false true false false W args v W' := by
  have hW' := hW
  obtain ⟨p, q, hA0, hV, rfl, hfz, hnd⟩ := hW
  have hA : DataW.TrodAll enc Tryz.prog W 0 (fun _ => true) true Tryz.f3.params.toList args.toList ds p := hA0
  have hAk := hA
  rw [Tryz.params3] at hA hval
  obtain ⟨v0, vs0, d0, ds0, p0, q0, hargs0, rfl, rfl, h0, r0⟩ := trodAll_cons hA
  obtain ⟨v1, vs1, d1, ds1, p1, q1, hargs1, rfl, rfl, h1, r1⟩ := trodAll_cons r0
  obtain ⟨v2, vs2, d2, ds2, p2, q2, hargs2, rfl, rfl, h2, r2⟩ := trodAll_cons r1
  obtain ⟨e1, e2, e3⟩ := trodAll_nil r2
  obtain rfl : args = #[v0, v1, v2] := by cases args; simp_all
  subst e2 e3
  obtain ⟨rfl, rfl⟩ := trodVars_none hV
  obtain ⟨a0, Q0, R0, _⟩ := (Reads.str Tryz.underlying9 (by kernel_rfl)).arg1 (enc := enc) (W := W) (fun _ => rfl) (by kernel_rfl) (hval 0 9 v0 rfl rfl) h0
  obtain ⟨a1, Q1, R1, _⟩ := (Reads.slice (Reads.struct2 (Reads.str Tryz.underlying9 (by kernel_rfl)) (Reads.slice (Reads.u8 Tryz.underlying5 (by kernel_rfl)) Tryz.underlying23 (by kernel_rfl)) Tryz.underlying56 (by rfl) (by kernel_rfl) (by kernel_rfl)) Tryz.underlying22 (by kernel_rfl)).arg1 (enc := enc) (W := W) (fun _ => rfl) (by kernel_rfl) (hval 1 22 v1 rfl rfl) h1
  obtain ⟨a2, Q2, R2, _⟩ := (Reads.slice (Reads.u8 Tryz.underlying5 (by kernel_rfl)) Tryz.underlying23 (by kernel_rfl)).arg1 (enc := enc) (W := W) (fun _ => rfl) (by kernel_rfl) (hval 2 23 v2 rfl rfl) h2
  have hb : Rows.uptoBulkAll ([d0, d1, d2] ++ []) ≤ 1048576 := of_decide_eq_true (hcond _ rfl)
  simp only [List.append_nil, Rows.uptoBulkAll] at hb
  have s0 : a0.length ≤ 1048576 := by have := small_str Q0; omega
  have s1 : a1.length ≤ 1048576 ∧ ∀ m ∈ a1, m.1.length ≤ 1048576 ∧ m.2.length ≤ 1048576 := by have := slq_small (f := fun m => m.1.length + m.2.length) Q1 (fun a x h => small_pair h); exact ⟨by omega, fun s hs => by have := this.2 s hs; omega⟩
  have s2 : a2.length ≤ 1048576 := by have := (slq_small (f := fun _ => 0) Q2 (fun a x h => Nat.zero_le _)).1; omega
  have hlt : ∀ x ∈ (p0 ++ p1 ++ p2 : List MemPlace), True := fun _ _ => trivial
  refine (walk a0 a1 a2 v0 v1 v2 W hl R0 R1 R2 (by have := Go.Proofs.Tryz.Ai.signsLaw_eq a0 a1 a2 s0 s1 s2 []; exact this)).mono fun e W' ⟨he, bel⟩ => ?_
  subst he
  exact ⟨_, rfl, _, _, _, [], _, [], hW', trodAll_mk1 (shut_bool Tryz.underlying4 _), trodAll_keep laidOut bel readable hAk (fun x hx => by simpa using hW'.lt x (by simpa using hx)), rfl, bel.frame _, fun h => by cases h⟩

noncomputable def laidWorld (os : Os) : World := World.laidAll Tryz.prog os Rows.noteSignsUptoRow.laid
theorem laid_met (os : Os) : laidMet Tryz.prog Rows.noteSignsUptoRow.laid ((laidWorld os).forCall (fun _ _ => 0) ⟨#[], #[.string ⟨#[]⟩, .slice none 0 0, .slice none 0 0], []⟩).memory :=
  laidMet_laidAll _ (by kernel_rfl) (by kernel_rfl)
theorem reads (os : Os) {H : Type} (enc : TypeId × Value → H) : ∃ places, DataW.whole enc Tryz.prog ((laidWorld os).forCall (fun _ _ => 0) ⟨#[], #[.string ⟨#[]⟩, .slice none 0 0, .slice none 0 0], []⟩).memory Tryz.f3.params.toList Rows.noteSignsSpec.vars false (#[.string ⟨#[]⟩, .slice none 0 0, .slice none 0 0] : Array Value).toList 8 = some ([.lit (.string []), .nil, .nil], [], places) :=
  ⟨[], by kernel_rfl⟩
theorem witness (os : Os) {H : Type} (enc : TypeId × Value → H) : ∃ (w : World) (tape : Tape) (i : Input), w.os = os ∧ (w.forCall tape i).Shaped Tryz.checked.prog ∧ i.vars = [] ∧ Input.okWide Tryz.checked.prog (w.forCall tape i) .any w.heap.size 3 i ∧
    (Rows.OpenSpec.upto Rows.noteSignsSpec).preRow enc Tryz.checked.prog Tryz.f3 Rows.noteSignsUptoRow.domain false Rows.noteSignsUptoRow.laid (w.forCall tape i).memory i.args ∧ ({} : Assume).holds Tryz.checked.prog (lone (Frame.enter Tryz.checked.prog 3 i.args .normal) [] (w.forCall tape i)) := by
  obtain ⟨places, hx⟩ := reads os enc
  have hok : Input.okWideB Tryz.checked.prog ((laidWorld os).forCall (fun _ _ => 0) ⟨#[], #[.string ⟨#[]⟩, .slice none 0 0, .slice none 0 0], []⟩) 3 ⟨#[], #[.string ⟨#[]⟩, .slice none 0 0, .slice none 0 0], []⟩ = true := by kernel_rfl
  exact ⟨laidWorld os, fun _ _ => 0, ⟨#[], #[.string ⟨#[]⟩, .slice none 0 0, .slice none 0 0], []⟩, World.laidAll_os _ _ _, World.shaped_of_ZipB (by kernel_rfl) (by kernel_rfl), (Input.okWide_of_okWideB (base := 0) hok).1, (Input.okWide_of_okWideB hok).2,
    OpenSpec.preRow_of_cond 8 hx (by kernel_rfl) (fun k hk => by have e : k = Rows.uptoSmall := (Option.some.inj (show some Rows.uptoSmall = some k from hk)).symm; rw [e]; simp [Rows.uptoSmall, Rows.uptoBulkAll, Rows.uptoBulk]) (by kernel_rfl) (laid_met os), by
    simp only [Assume.holds]
    exact ⟨by simp, by simp, fun _ => Modest.zero, by simp, by simp⟩⟩

set_option maxRecDepth 100000 in
theorem lifted (os : Os) (started : os.Started) (H : Type) (enc : TypeId × Value → H) (F : Stop.Interp) :
    ReturnsInHanded {} Tryz.checked os 3 .any ((Rows.OpenSpec.upto Rows.noteSignsSpec).preRow enc Tryz.prog Tryz.f3 Rows.noteSignsUptoRow.domain false Rows.noteSignsUptoRow.laid) (((Rows.OpenSpec.upto Rows.noteSignsSpec).at F).post enc Tryz.prog Tryz.f3 false true false false) := by
  refine returnsInHanded_of_row (C := Tryz.checked) (s := (Rows.OpenSpec.upto Rows.noteSignsSpec)) own started (by kernel_rfl) Tryz.func3 (witness os enc) ?_
  intro W base args ds gs before hval hW _ hcond _ hL hsh _
  exact contract H enc W base args ds gs before hval hW hcond (all_of (by rw [← MakeChecks.laidMetH_plain _ _ _ (by kernel_rfl)]; exact hL) hsh)

theorem said : Rows.NoteSignsUptoSaid :=
  OpenClaim.holds_of_cond 3 Tryz.f3 rfl rfl rfl rfl rfl rfl rfl ⟨rfl, rfl, rfl, rfl, rfl⟩ rfl rfl rfl rfl rfl (by kernel_rfl) Tryz.func3 (by kernel_rfl)
    (of_decide_eq_true (by kernel_rfl)) (by unfold Func.isWrapper; first | (rw [if_pos (by decide +kernel)]; kernel_rfl) | (rw [if_neg (by decide +kernel)]; exact ⟨rfl, rfl⟩))
    (fun os started H enc _ F => by rw [OpenClaim.pre_eq_preRow]; exact lifted os started H enc F)

theorem plain (f : FuncId) (fn : Func) (hf : Tryz.pinned.checked.prog.funcNamed "mews/mewslaw8.NoteSigns" = some f) (hfn : Tryz.pinned.checked.prog.funcs[f]? = some fn) :
    false = Tryz.pinned.checked.prog.looks [] ∧ ∀ (j : Nat) t, fn.params[j]? = some t → Tryz.pinned.checked.prog.wantsStandIn t = false := by
  obtain rfl : f = 3 := Option.some.inj ((show Tryz.prog.funcNamed "mews/mewslaw8.NoteSigns" = some 3 by kernel_rfl).symm.trans hf) |>.symm
  obtain rfl : fn = Tryz.f3 := (Option.some.inj (Tryz.func3.symm.trans hfn)).symm
  refine ⟨by kernel_rfl, fun j t ht => ?_⟩
  have hm : t ∈ Tryz.f3.params.toList := Array.mem_toList_iff.2 (Array.mem_of_getElem? ht)
  rw [Tryz.params3] at hm
  simp only [List.mem_cons, List.mem_nil_iff, or_false] at hm
  rcases hm with rfl | rfl | rfl
  · exact (show Tryz.prog.wantsStandIn 9 = false by kernel_rfl)
  · exact (show Tryz.prog.wantsStandIn 22 = false by kernel_rfl)
  · exact (show Tryz.prog.wantsStandIn 23 = false by kernel_rfl)

/-- the card -/
theorem card : Rows.NoteSignsUptoCardSaid :=
  Claim7.holds_tied_plain_at .later [] _ _ _ _ said (fun _ h => by cases h) (by kernel_rfl) (fun _ h => by cases h) noteSignsUpto_row_tie rfl ⟨rfl, rfl⟩ (by kernel_rfl) rfl plain (by kernel_rfl)
end Go.Proofs.YtlpnjleajkdnpaaGreatDoor.noteSigns
end
