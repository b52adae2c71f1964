/- Part 7 of a proof: a Go function is evaluated on abstract values (texts LGood .. FGood); no conditions beyond those of each theorem. -/
import Derived.Test.YtkafjfkkangooaaGreatDoorAi6
import Derived.Test.YtkafjfkkangooaaGreatDoorRows
import Derived.Test.YtkafjfkkangooaaGreatDoorCards
import Derived.Test.YtkafjfkkangooaaGreatDoorTie
import Derived.WalkKit
import Derived.ProofKit
import Derived.OpenShut
import Derived.Below
import Derived.ChangeOld
import Derived.Deep.DeepHandedRow
import Derived.Lib.LaidTab
import Derived.Lay
import Derived.MakeChecks
set_option linter.all false
set_option linter.unusedVariables false
set_option linter.unusedSimpArgs false
set_option linter.unnecessarySimpa false
section
/- NoteGood: the evaluation. -/
namespace Go.Proofs.Tryz.Ai
open Go Go.AI Go.Proofs Go.B64
set_option maxHeartbeats 4000000
set_option maxRecDepth 4000
set_option linter.unusedVariables false

theorem loopN_err (text : List UInt8) (K : List (List UInt8 × List UInt8)) : ∀ (r pre : List (List UInt8 × List UInt8)) (g u : List (List UInt8)) (e : Int), loopN text K pre g u r = .inl e → e ≠ 0 := by
  intro r
  induction r with
  | nil => intro pre g u e h; rw [loopN_nil] at h; cases h
  | cons m r ih =>
    intro pre g u e h
    rw [loopN_cons] at h
    split at h
    · injection h with h; subst h; decide
    · split at h
      · exact ih _ _ _ _ h
      · split at h
        · exact ih _ _ _ _ h
        · injection h with h; subst h; decide
theorem loopN_names (text : List UInt8) (K : List (List UInt8 × List UInt8)) : ∀ (r pre : List (List UInt8 × List UInt8)) (g u : List (List UInt8)) (q : List (List UInt8) × List (List UInt8)), loopN text K pre g u r = .inr q → (∀ n ∈ g, ∃ k ∈ K, k.1 = n) → ∀ n ∈ q.1, ∃ k ∈ K, k.1 = n := by
  intro r
  induction r with
  | nil => intro pre g u q h; rw [loopN_nil] at h; injection h with h; subst h; exact fun h => h
  | cons m r ih =>
    intro pre g u q h hg
    rw [loopN_cons] at h
    split at h
    · cases h
    · split at h
      · exact ih _ _ _ _ h hg
      · rename_i k hk
        split at h
        · refine ih _ _ _ _ h fun n hn => ?_
          rcases List.mem_append.1 hn with hn | hn
          · exact hg n hn
          · simp only [List.mem_singleton] at hn
            subst hn
            have h2 := List.find?_some hk
            simp only [isKey, Bool.and_eq_true, beq_iff_eq] at h2
            exact ⟨k, List.mem_of_find?_eq_some hk, h2.1⟩
        · cases h
theorem loopN_len (text : List UInt8) (K : List (List UInt8 × List UInt8)) : ∀ (r pre : List (List UInt8 × List UInt8)) (g u : List (List UInt8)) (q : List (List UInt8) × List (List UInt8)), loopN text K pre g u r = .inr q → q.1.length + q.2.length = g.length + u.length + r.length := by
  intro r
  induction r with
  | nil => intro pre g u q h; rw [loopN_nil] at h; injection h with h; subst h; simp
  | cons m r ih =>
    intro pre g u q h
    rw [loopN_cons] at h
    split at h
    · cases h
    · split at h
      · rw [ih _ _ _ _ h]; simp; omega
      · split at h
        · rw [ih _ _ _ _ h]; simp; omega
        · cases h
/-- opened, or nothing of it -/
theorem openN_cases (s : List UInt8) (K : List (List UInt8 × List UInt8)) :
    (∃ e, e ≠ 0 ∧ openN s K = (([], [], []), e)) ∨ ∃ t g u, openN s K = ((t, g, u), 0) ∧ g ≠ [] ∧ (t ++ [10]) <+: s ∧ (∀ n ∈ g, ∃ k ∈ K, k.1 = n) ∧ g.length + u.length ≤ 8 := by
  unfold openN
  split
  · exact .inl ⟨13, by decide, rfl⟩
  · cases hc : cutP s with
    | none => exact .inl ⟨15, by decide, rfl⟩
    | some r =>
      obtain ⟨t, ms⟩ := r
      simp only
      split
      · exact .inl ⟨14, by decide, rfl⟩
      · rename_i h8
        cases hl : loopN t K [] [] [] ms with
        | inl e => exact .inl ⟨e, loopN_err _ _ _ _ _ _ _ hl, rfl⟩
        | inr q =>
          simp only
          split
          · exact .inl ⟨20, by decide, rfl⟩
          · rename_i hq
            refine .inr ⟨t, q.1, q.2, rfl, hq, ?_, loopN_names _ _ _ _ _ _ _ hl (by simp), ?_⟩
            · obtain ⟨ls, _, _, h3, _, _⟩ := cutN_is markP textP hc
              exact ⟨unl ls, by rw [h3]; simp⟩
            · have := loopN_len _ _ _ _ _ _ _ hl
              simp at this; omega
def hasN (K : List (List UInt8 × List UInt8)) (n : List UInt8) : Bool := K.any fun k => k.1 == n
theorem hasN_app (K : List (List UInt8 × List UInt8)) (n : List UInt8) (k : List UInt8 × List UInt8) : hasN (K ++ [k]) n = (hasN K n || k.1 == n) := by simp [hasN]
theorem goodLaw0 (s : List UInt8) (l : List (List UInt8 × List UInt8)) (hs : s.length ≤ 2 ^ 29) (hl : l.length ≤ 2 ^ 29) (h : ∀ k ∈ l, k.1.length ≤ 2 ^ 20 ∧ k.2.length ≤ 2 ^ 20) (σ : List (List AV)) : ev 6 [.str s, .sl .sh (l.map rkeyF)] σ = some (.bool true, σ) := by
  have hF := first_eq
  obtain ⟨b, hfew, hb⟩ := few_eq l (by omega) (fun x hx => by have := h x hx; omega) σ
  have hKe := Keys_eq l (by omega) h σ
  obtain ⟨K, hK⟩ : ∃ K, (keysG l).map hK = K := ⟨_, rfl⟩
  have hKl : K.length ≤ 2 ^ 29 := by
    rw [← hK, List.length_map]
    exact Nat.le_trans (List.length_filter_le ..) hl
  have hk : ∀ k ∈ K, k.1.length ≤ 2 ^ 20 ∧ k.2.length ≤ 2 ^ 20 := by
    intro k hk
    rw [← hK] at hk
    obtain ⟨x, hx, rfl⟩ := List.mem_map.1 hk
    exact ⟨(h x (List.mem_filter.1 hx).1).1, by simp [Ai.hK, sha256_len]⟩
  have hKm : ((keysG l).map fun k => keyF (Ai.hK k)) = K.map keyF := by rw [← hK, List.map_map]; rfl
  rw [hKm] at hKe
  have hOp := Open_eq s K hs (by omega) hk σ
  have hN : ∀ n σ, ev 13 [.int .i64 n] σ = some (.int .i64 n, σ) := fun n σ => Num_eq n σ
  obtain ⟨R, hR⟩ : ∃ R, (keysG l).map rkeyF = R := ⟨_, rfl⟩
  rw [hR] at hKe
  refine EV_post rfl Tryz.func6 rfl (by simp [Tryz.ntmps6]) (by kernel_rfl) (by kernel_rfl) ?_
  cases b with
  | false =>
    simp (maxSteps := 4000000) [List.getElem?_cons_zero, List.getElem?_cons_succ, hF, hfew, Tryz.results6]
  | true =>
    by_cases h8 : 8000 < s.length
    · simp (maxSteps := 4000000) [List.getElem?_cons_zero, List.getElem?_cons_succ, hF, hfew, h8, Tryz.results6]
    · rcases openN_cases s K with ⟨e, he, hq⟩ | ⟨t, g, u, hq, hg, hp, hn, hgu⟩
      · rw [hq] at hOp
        simp only [openedAV] at hOp
        have w0 : IntKind.i64.wrap 0 = 0 := wrap64 (by omega)
        simp (maxSteps := 4000000) [List.getElem?_cons_zero, List.getElem?_cons_succ, hF, hfew, h8, hKe, hOp, hN, he, w0, Tryz.results6]
      · rw [hq] at hOp
        simp only [openedAV] at hOp
        have hgl : g.length ≠ 0 := by simpa using hg
        have htl : t.length ≤ s.length := by have := hp.length_le; simp at this; omega
        have hB := Begins_eq s (t ++ [10]) (by omega) (by simp; omega)
        have hpb : (t ++ [10]).isPrefixOf s = true := by rw [List.isPrefixOf_iff_prefix]; exact hp
        rw [hpb] at hB
        have m1 : t.length + 1 ≤ most := by unfold most; omega
        simp (maxSteps := 4000000) [List.getElem?_cons_zero, List.getElem?_cons_succ, hF, hfew, h8, hKe, hOp, hN, hgl, hB, m1]
        refine Post_loop (I := fun i : Nat => ⟨[(7, .sl .sh (K.map keyF)), (10, .lp 10 0), (12, .int .i64 i)], [(10, [.str t, .sl .sh (g.map .str), .sl .sh (u.map .str)])], σ⟩) (Pr := fun i => i ≤ g.length) (μ := fun i => g.length - i) (a := 0) (by simp) (by simp) ?_
        intro i hi
        have w1 : IntKind.i64.wrap ((i : Int) + 1) = (i : Int) + 1 := wrap64 (by omega)
        by_cases hc : i < g.length
        · obtain ⟨n, hx⟩ : ∃ n, g[i]? = some n := ⟨_, List.getElem?_eq_getElem hc⟩
          obtain ⟨k0, hk0, hk0n⟩ := hn n (List.mem_of_getElem? hx)
          simp (maxSteps := 4000000) [List.getElem?_cons_zero, List.getElem?_cons_succ, -getElem?_pos, hc]
          refine Post_loop (I := fun j : Nat => ⟨[(7, .sl .sh (K.map keyF)), (10, .lp 10 0), (12, .int .i64 i), (13, .bool (hasN (K.take j) n)), (14, .int .i64 j)], [(10, [.str t, .sl .sh (g.map .str), .sl .sh (u.map .str)])], σ⟩) (Pr := fun j => j ≤ K.length) (μ := fun j => K.length - j) (a := 0) (by simp [hasN]) (by simp) ?_
          intro j hj
          have w2 : IntKind.i64.wrap ((j : Int) + 1) = (j : Int) + 1 := wrap64 (by omega)
          by_cases hjc : j < K.length
          · obtain ⟨k, hkx⟩ : ∃ k, K[j]? = some k := ⟨_, List.getElem?_eq_getElem hjc⟩
            have htk : K.take (j + 1) = K.take j ++ [k] := by rw [List.take_add_one, hkx]; rfl
            have hany := hasN_app (K.take j) n k
            rw [← htk] at hany
            obtain ⟨B, hB⟩ : ∃ B, hasN (K.take j) n = B := ⟨_, rfl⟩
            obtain ⟨B', hB'⟩ : ∃ B', hasN (K.take (j + 1)) n = B' := ⟨_, rfl⟩
            rw [hB, hB'] at hany
            rw [hB]
            obtain ⟨k1, k2⟩ := k
            have hNm := Name_eq k1 k2
            unfold keyAV at hNm
            simp only at hany
            obtain ⟨C, hC⟩ : ∃ C, (k1 == n) = C := ⟨_, rfl⟩
            rw [hC] at hany
            subst hany
            cases B <;> cases C
            all_goals
              simp (maxSteps := 4000000) [List.getElem?_cons_zero, List.getElem?_cons_succ, -getElem?_pos, -regionA_true, hjc]
              refine Post_bndD [] _ (by rfl) (by simp (maxSteps := 4000000) [List.getElem?_cons_zero, List.getElem?_cons_succ, ]; exact rfl) ?_
              repeat (first
                | refine PostD_go _ (by rfl) (by rfl) (by simp (maxSteps := 4000000) [List.getElem?_cons_zero, List.getElem?_cons_succ, -getElem?_pos, hkx, hx, keyFx, hNm, hC]; exact rfl) (by first | exact .inl rfl | exact .inr rfl) (by rfl) ?_
                | refine PostD_no (by rfl) (by rfl) ?_)
              refine PostD_end ?_
              simp (maxSteps := 4000000) [List.getElem?_cons_zero, List.getElem?_cons_succ, w2]
              exact ⟨j + 1, by omega, by omega, by rw [hB']; simp⟩
          · obtain rfl : j = K.length := by omega
            have hT : hasN (K.take K.length) n = true := by
              rw [List.take_length]; exact List.any_eq_true.2 ⟨k0, hk0, by simpa using hk0n⟩
            rw [hT]
            simp (maxSteps := 4000000) [List.getElem?_cons_zero, List.getElem?_cons_succ, hjc, w1]
            exact ⟨i + 1, by omega, by omega, by simp⟩
        · simp (maxSteps := 4000000) [List.getElem?_cons_zero, List.getElem?_cons_succ, hc, Tryz.results6]
theorem goodLaw_eq (s : List UInt8) (l : List (List UInt8 × List UInt8)) (hs : s.length ≤ 1048576) (h : l.length ≤ 1048576 ∧ ∀ m ∈ l, m.1.length ≤ 1048576 ∧ m.2.length ≤ 1048576) (σ : List (List AV)) : ev 6 [.str s, .sl .sh (l.map rkeyF)] σ = some (.bool true, σ) :=
  goodLaw0 s l (by omega) (by omega) (fun k hk => by have := h.2 k hk; exact ⟨by omega, by omega⟩) σ
end Go.Proofs.Tryz.Ai
end
section
/- The bulk of what came in. -/
namespace Go.Proofs.YtkafjfkkangooaaGreatDoor
open Go Go.AI
set_option linter.unusedVariables false
section
variable {H : Type}
theorem bulk_pos (d : DataW H) : 1 ≤ Rows.uptoBulk d := by
  cases d with
  | lit l => cases l <;> simp [Rows.uptoBulk]
  | _ => simp [Rows.uptoBulk]
theorem bulk_all (ds : List (DataW H)) : ds.length ≤ Rows.uptoBulkAll ds ∧ ∀ d ∈ ds, Rows.uptoBulk d ≤ Rows.uptoBulkAll ds := by
  induction ds with
  | nil => simp
  | cons d r ih =>
    have := bulk_pos d
    simp only [Rows.uptoBulkAll, List.length_cons, List.mem_cons]
    refine ⟨by omega, ?_⟩
    rintro x (rfl | hx)
    · omega
    · have := ih.2 x hx; omega
theorem small_str {s : List UInt8} {d : DataW H} (h : d = .lit (.string s) ∧ s.length ≤ maxLen) : s.length ≤ Rows.uptoBulk d := by
  rw [h.1]; simp [Rows.uptoBulk]
theorem slq_small {α : Type} {Q : α → DataW H → Prop} {f : α → Nat} {l : List α} {d : DataW H} (h : slQ Q l d) (hf : ∀ a x, Q a x → f a ≤ Rows.uptoBulk x) : l.length ≤ Rows.uptoBulk d ∧ ∀ a ∈ l, f a ≤ Rows.uptoBulk d := by
  rcases h with ⟨rfl, rfl⟩ | ⟨ds, rest, rfl, hl, _, hq⟩
  · simp
  · simp only [Rows.uptoBulk]
    have := bulk_all ds
    refine ⟨by omega, fun a ha => ?_⟩
    obtain ⟨i, hi⟩ := List.mem_iff_getElem?.1 ha
    have hlt := (List.getElem?_eq_some_iff.1 hi).1
    obtain ⟨x, hx⟩ : ∃ x, ds[i]? = some x := ⟨_, List.getElem?_eq_getElem (by omega)⟩
    have h1 := hf a x (hq i a x hi hx)
    have h2 := this.2 x (List.mem_of_getElem? hx)
    omega
theorem small_mod {m : List UInt8 × List UInt8} {d : DataW H} (h : st2Q (fun s d => d = .lit (.string s) ∧ s.length ≤ maxLen) (fun s d => d = .lit (.string s) ∧ s.length ≤ maxLen) m d) : m.1.length + m.2.length ≤ Rows.uptoBulk d := by
  obtain ⟨d0, d1, rfl, q0, q1⟩ := h
  have := small_str q0
  have := small_str q1
  simp only [Rows.uptoBulk, Rows.uptoBulkAll]; omega
theorem small_pair {m : List UInt8 × List UInt8} {d : DataW H} (h : st2Q (fun s d => d = .lit (.string s) ∧ s.length ≤ maxLen) (slQ fun (n : UInt8) d => d = .lit (.int .u8 n.toNat)) m d) : m.1.length + m.2.length ≤ Rows.uptoBulk d := by
  obtain ⟨d0, d1, rfl, q0, q1⟩ := h
  have := small_str q0
  have := (slq_small (f := fun _ => 0) q1 (fun a x h => Nat.zero_le _)).1
  simp only [Rows.uptoBulk, Rows.uptoBulkAll]; omega
end
end Go.Proofs.YtkafjfkkangooaaGreatDoor
end
section
/- The frame of NoteGood: from the evaluation to the given statement. -/
namespace Go.Proofs.YtkafjfkkangooaaGreatDoor.noteGood
open Go Go.AI Go.ChangeShapes Go.WideShapes Go.ChangeAt Go.RowKit
set_option linter.unusedVariables false

theorem own : ownKnob Tryz.prog.godebug = none := by kernel_rfl
theorem mixed : Tryz.prog.follows .mixedOrders = true := by kernel_rfl
theorem laidOut : laidOutB Tryz.prog = true := by kernel_rfl

theorem walk (a0 : List UInt8) (a1 : List (List UInt8 × List UInt8)) (v0 v1 : Value) (W : World) (hl : Go.Proofs.Tryz.Ai.LaidAll W) (r0 : Rep W.heap.size gh0 W v0 (.str a0)) (r1 : Rep W.heap.size gh0 W v1 (.sl .sh (a1.map fun m => .agg [.str m.1, .sl .sh (m.2.map .u8)])))
    (he : Go.Proofs.Tryz.Ai.ev 6 [.str a0, .sl .sh (a1.map fun m => .agg [.str m.1, .sl .sh (m.2.map .u8)])] [] = some (.bool true, [])) :
    Calls Tryz.prog 6 #[v0, v1] W fun e w' => e = .returned (.bool true) ∧ Below W.heap.size W w' :=
  Go.AI.top (s' := []) mixed rfl (Go.Proofs.Tryz.Ai.T_ok hl) (by rfl)
    (fun j c h => by
      match j, h with
      | 0, h => simp at h; subst h; exact ⟨r0, rfl, rfl⟩
      | 1, h => simp at h; subst h; exact ⟨r1, rfl, rfl⟩
      | j + 2, h => simp at h)
    he

/-- the table of powers, as the row lays it -/
theorem laid_of {W : World} (hL : laidMet Tryz.prog Rows.noteGoodUptoRow.laid W) : Go.Proofs.Tryz.Ai.Laid W :=
  tabIs_of_mem (g := 3) (t := 182) (e := 133) (n := 20) (by
    have : ("internal/strconv.uint64pow10", Rows.laid_internal_strconv_uint64pow10) ∈ Rows.noteGoodUptoRow.laid := by simp [Rows.noteGoodUptoRow]
    have e : (Rows.laid_internal_strconv_uint64pow10 : DataW Unit) = Lib.tabData .u64 Lib.pow10Tab := by kernel_rfl
    rw [e] at this; exact this) (by kernel_rfl) (by kernel_rfl) Tryz.underlying182 Tryz.underlying133 (by kernel_rfl) (by kernel_rfl) hL

/-- what a row lays, and what each world has -/
theorem all_of {W : World} (hL : laidMet Tryz.prog Rows.noteGoodUptoRow.laid W) (hsh : W.ShapedOpen Tryz.prog) : Go.Proofs.Tryz.Ai.LaidAll W where
  tab := laid_of hL
  max := Go.Proofs.Tryz.Ai.maxLen_of hsh

theorem readable : ∀ t ∈ Tryz.f6.params.toList, Tryz.prog.readableRec t = true ∧ t < Tryz.prog.types.size := by
  rw [Tryz.params6]
  intro t ht
  simp only [List.mem_cons, List.mem_nil_iff, or_false] at ht
  rcases ht with rfl | rfl <;> exact ⟨by kernel_rfl, of_decide_eq_true (by kernel_rfl)⟩

set_option maxRecDepth 100000 in
theorem contract (H : Type) (enc : TypeId × Value → H) (W : World) (base : Nat) (args : Array Value) (ds gs : List (DataW H)) (before : List MemPlace)
    (hval : ∀ (j : Nat) t v, Tryz.f6.params[j]? = some t → args[j]? = some v → Value.okWide Tryz.prog W .any base t v)
    (hW : DataW.Whole enc Tryz.prog Tryz.f6.params.toList Rows.noteGoodSpec.vars false W args.toList ds gs before) (hcond : ∀ k, (Rows.OpenSpec.upto Rows.noteGoodSpec).cond = some k → k H (ds ++ gs) = true) (hl : Go.Proofs.Tryz.Ai.LaidAll W) :
    Calls Tryz.prog 6 args W fun e W' => ∃ v, e = .returned v ∧ Rows.noteGoodSpec.post enc Tryz.prog Tryz.f6 false true false false W args v W' := by
  have hW' := hW
  obtain ⟨p, q, hA0, hV, rfl, hfz, hnd⟩ := hW
  have hA : DataW.TrodAll enc Tryz.prog W 0 (fun _ => true) true Tryz.f6.params.toList args.toList ds p := hA0
  have hAk := hA
  rw [Tryz.params6] at hA hval
  obtain ⟨v0, vs0, d0, ds0, p0, q0, hargs0, rfl, rfl, h0, r0⟩ := trodAll_cons hA
  obtain ⟨v1, vs1, d1, ds1, p1, q1, hargs1, rfl, rfl, h1, r1⟩ := trodAll_cons r0
  obtain ⟨e1, e2, e3⟩ := trodAll_nil r1
  obtain rfl : args = #[v0, v1] := by cases args; simp_all
  subst e2 e3
  obtain ⟨rfl, rfl⟩ := trodVars_none hV
  obtain ⟨a0, Q0, R0, _⟩ := (Reads.str Tryz.underlying9 (by kernel_rfl)).arg1 (enc := enc) (W := W) (fun _ => rfl) (by kernel_rfl) (hval 0 9 v0 rfl rfl) h0
  obtain ⟨a1, Q1, R1, _⟩ := (Reads.slice (Reads.struct2 (Reads.str Tryz.underlying9 (by kernel_rfl)) (Reads.slice (Reads.u8 Tryz.underlying5 (by kernel_rfl)) Tryz.underlying43 (by kernel_rfl)) Tryz.underlying72 (by rfl) (by kernel_rfl) (by kernel_rfl)) Tryz.underlying22 (by kernel_rfl)).arg1 (enc := enc) (W := W) (fun _ => rfl) (by kernel_rfl) (hval 1 22 v1 rfl rfl) h1
  have hb : Rows.uptoBulkAll ([d0, d1] ++ []) ≤ 1048576 := of_decide_eq_true (hcond _ rfl)
  simp only [List.append_nil, Rows.uptoBulkAll] at hb
  have s0 : a0.length ≤ 1048576 := by have := small_str Q0; omega
  have s1 : a1.length ≤ 1048576 ∧ ∀ m ∈ a1, m.1.length ≤ 1048576 ∧ m.2.length ≤ 1048576 := by have := slq_small (f := fun m => m.1.length + m.2.length) Q1 (fun a x h => small_pair h); exact ⟨by omega, fun s hs => by have := this.2 s hs; omega⟩
  have hlt : ∀ x ∈ (p0 ++ p1 : List MemPlace), True := fun _ _ => trivial
  refine (walk a0 a1 v0 v1 W hl R0 R1 (by have := Go.Proofs.Tryz.Ai.goodLaw_eq a0 a1 s0 s1 []; exact this)).mono fun e W' ⟨he, bel⟩ => ?_
  subst he
  exact ⟨_, rfl, _, _, _, [], _, [], hW', trodAll_mk1 (shut_bool Tryz.underlying4 _), trodAll_keep laidOut bel readable hAk (fun x hx => by simpa using hW'.lt x (by simpa using hx)), rfl, bel.frame _, fun h => by cases h⟩

noncomputable def laidWorld (os : Os) : World := World.laidAll Tryz.prog os Rows.noteGoodUptoRow.laid
theorem laid_met (os : Os) : laidMet Tryz.prog Rows.noteGoodUptoRow.laid ((laidWorld os).forCall (fun _ _ => 0) ⟨#[], #[.string ⟨#[]⟩, .slice none 0 0], []⟩).memory :=
  laidMet_laidAll _ (by kernel_rfl) (by kernel_rfl)
theorem reads (os : Os) {H : Type} (enc : TypeId × Value → H) : ∃ places, DataW.whole enc Tryz.prog ((laidWorld os).forCall (fun _ _ => 0) ⟨#[], #[.string ⟨#[]⟩, .slice none 0 0], []⟩).memory Tryz.f6.params.toList Rows.noteGoodSpec.vars false (#[.string ⟨#[]⟩, .slice none 0 0] : Array Value).toList 8 = some ([.lit (.string []), .nil], [], places) :=
  ⟨[], by kernel_rfl⟩
theorem witness (os : Os) {H : Type} (enc : TypeId × Value → H) : ∃ (w : World) (tape : Tape) (i : Input), w.os = os ∧ (w.forCall tape i).Shaped Tryz.checked.prog ∧ i.vars = [] ∧ Input.okWide Tryz.checked.prog (w.forCall tape i) .any w.heap.size 6 i ∧
    (Rows.OpenSpec.upto Rows.noteGoodSpec).preRow enc Tryz.checked.prog Tryz.f6 Rows.noteGoodUptoRow.domain false Rows.noteGoodUptoRow.laid (w.forCall tape i).memory i.args ∧ ({} : Assume).holds Tryz.checked.prog (lone (Frame.enter Tryz.checked.prog 6 i.args .normal) [] (w.forCall tape i)) := by
  obtain ⟨places, hx⟩ := reads os enc
  have hok : Input.okWideB Tryz.checked.prog ((laidWorld os).forCall (fun _ _ => 0) ⟨#[], #[.string ⟨#[]⟩, .slice none 0 0], []⟩) 6 ⟨#[], #[.string ⟨#[]⟩, .slice none 0 0], []⟩ = true := by kernel_rfl
  exact ⟨laidWorld os, fun _ _ => 0, ⟨#[], #[.string ⟨#[]⟩, .slice none 0 0], []⟩, World.laidAll_os _ _ _, World.shaped_of_ZipB (by kernel_rfl) (by kernel_rfl), (Input.okWide_of_okWideB (base := 0) hok).1, (Input.okWide_of_okWideB hok).2,
    OpenSpec.preRow_of_cond 8 hx (by kernel_rfl) (fun k hk => by have e : k = Rows.uptoSmall := (Option.some.inj (show some Rows.uptoSmall = some k from hk)).symm; rw [e]; simp [Rows.uptoSmall, Rows.uptoBulkAll, Rows.uptoBulk]) (by kernel_rfl) (laid_met os), by
    simp only [Assume.holds]
    exact ⟨by simp, by simp, fun _ => Modest.zero, by simp, by simp⟩⟩

set_option maxRecDepth 100000 in
theorem lifted (os : Os) (started : os.Started) (H : Type) (enc : TypeId × Value → H) (F : Stop.Interp) :
    ReturnsInHanded {} Tryz.checked os 6 .any ((Rows.OpenSpec.upto Rows.noteGoodSpec).preRow enc Tryz.prog Tryz.f6 Rows.noteGoodUptoRow.domain false Rows.noteGoodUptoRow.laid) (((Rows.OpenSpec.upto Rows.noteGoodSpec).at F).post enc Tryz.prog Tryz.f6 false true false false) := by
  refine returnsInHanded_of_row (C := Tryz.checked) (s := (Rows.OpenSpec.upto Rows.noteGoodSpec)) own started (by kernel_rfl) Tryz.func6 (witness os enc) ?_
  intro W base args ds gs before hval hW _ hcond _ hL hsh _
  exact contract H enc W base args ds gs before hval hW hcond (all_of (by rw [← MakeChecks.laidMetH_plain _ _ _ (by kernel_rfl)]; exact hL) hsh)

theorem said : Rows.NoteGoodUptoSaid :=
  OpenClaim.holds_of_cond 6 Tryz.f6 rfl rfl rfl rfl rfl rfl rfl ⟨rfl, rfl, rfl, rfl, rfl⟩ rfl rfl rfl rfl rfl (by kernel_rfl) Tryz.func6 (by kernel_rfl)
    (of_decide_eq_true (by kernel_rfl)) (by unfold Func.isWrapper; first | (rw [if_pos (by decide +kernel)]; kernel_rfl) | (rw [if_neg (by decide +kernel)]; exact ⟨rfl, rfl⟩))
    (fun os started H enc _ F => by rw [OpenClaim.pre_eq_preRow]; exact lifted os started H enc F)

theorem plain (f : FuncId) (fn : Func) (hf : Tryz.pinned.checked.prog.funcNamed "mews/mewslaw8.NoteGood" = some f) (hfn : Tryz.pinned.checked.prog.funcs[f]? = some fn) :
    true = Tryz.pinned.checked.prog.looks [] ∧ ∀ (j : Nat) t, fn.params[j]? = some t → Tryz.pinned.checked.prog.wantsStandIn t = false := by
  obtain rfl : f = 6 := Option.some.inj ((show Tryz.prog.funcNamed "mews/mewslaw8.NoteGood" = some 6 by kernel_rfl).symm.trans hf) |>.symm
  obtain rfl : fn = Tryz.f6 := (Option.some.inj (Tryz.func6.symm.trans hfn)).symm
  refine ⟨by kernel_rfl, fun j t ht => ?_⟩
  have hm : t ∈ Tryz.f6.params.toList := Array.mem_toList_iff.2 (Array.mem_of_getElem? ht)
  rw [Tryz.params6] at hm
  simp only [List.mem_cons, List.mem_nil_iff, or_false] at hm
  rcases hm with rfl | rfl
  · exact (show Tryz.prog.wantsStandIn 9 = false by kernel_rfl)
  · exact (show Tryz.prog.wantsStandIn 22 = false by kernel_rfl)

/-- the card -/
theorem card : Rows.NoteGoodUptoCardSaid :=
  Claim7.holds_tied_plain_at .later [] _ _ _ _ said (fun _ h => by cases h) (by kernel_rfl) (fun _ h => by cases h) noteGoodUpto_row_tie rfl ⟨rfl, rfl⟩ (by kernel_rfl) rfl plain (by kernel_rfl)
end Go.Proofs.YtkafjfkkangooaaGreatDoor.noteGood
end
