/- Part 8 of a proof: a Go function is evaluated on abstract values (texts LSorted .. FSorted); no conditions beyond those of each theorem. -/
import Derived.Test.YthdpejligoblbaaGreatDoorAi7
import Derived.OpenShut
import Derived.Carry
import Derived.Deep.Slices
import Derived.ChangeOld
import Derived.Lib.LaidTab
import Derived.Test.YthdpejligoblbaaGreatDoorCards
import Derived.Test.YthdpejligoblbaaGreatDoorTie
import Derived.WalkKit
import Derived.ProofKit
import Derived.Below
import Derived.Deep.DeepHandedRow
import Derived.Lay
import Derived.MakeChecks
set_option linter.all false
set_option linter.unusedVariables false
set_option linter.unusedSimpArgs false
set_option linter.unnecessarySimpa false
section
/- ModSorted. -/
namespace Go.Proofs.Tryz.Ai
open Go Go.AI Go.Proofs
set_option maxHeartbeats 2000000
set_option linter.unusedVariables false

theorem cnt_step {l : List (List UInt8)} {k : Nat} {x y : List UInt8} (h : l[k]? = some y) : (l.take (k + 1)).count x = (l.take k).count x + if y = x then 1 else 0 := by
  rw [List.take_add_one, h, List.count_append]
  simp [List.count_cons]
theorem sortedLaw_eq (l : List (List UInt8)) (σ) : ev 10 [.sl .sh (l.map .str)] σ = some (.bool true, σ) := by
  have hF := few_eq l
  obtain ⟨fw, hfw⟩ : ∃ w, (decide (l.length ≤ 60) && l.all fun s => decide (s.length ≤ 2000)) = w := ⟨_, rfl⟩
  rw [hfw] at hF
  refine EV_post rfl Tryz.func10 rfl (by simp [Tryz.ntmps10]) (by kernel_rfl) (by kernel_rfl) ?_
  cases fw with
  | false => simp (maxSteps := 4000000) [List.getElem?_cons_zero, List.getElem?_cons_succ, first_eq, hF, Tryz.results10]
  | true =>
    simp at hfw
    obtain ⟨l60, l2000⟩ := hfw
    have tp := TO.cmp.tp
    have hS := Sort_eq l (by omega) (fun x hx => by have := l2000 x hx; omega)
    have hSs := isrt_srt' tp l
    have hSl : (isrt cmpB l).length = l.length := isrt_len l
    have hSQ : ∀ y ∈ isrt cmpB l, y.length ≤ 2000 := fun y hy => l2000 y (isrt_mem.1 hy)
    have hcnt : ∀ x, (isrt cmpB l).count x = l.count x := fun x => (isrt_perm l).count_eq x
    have hS2 := Sort_eq (isrt cmpB l) (by omega) (fun x hx => by have := hSQ x hx; omega)
    rw [isrt_idem' tp] at hS2
    have hST := SameTexts_eq (isrt cmpB l) (isrt cmpB l) (by omega)
    generalize isrt cmpB l = S at *
    have hST' : ∀ σ, ev 41 [.sl .sh (S.map .str), .sl .sh (S.map .str)] σ = some (.bool true, σ) := fun σ => by rw [hST]; simp
    simp (maxSteps := 4000000) [List.getElem?_cons_zero, List.getElem?_cons_succ, -regionA_true, first_eq, hF, hS, hSl, hS2, hST']
    refine Post_loop (I := fun i : Nat => ⟨[(0, .sl .sh (l.map .str)), (5, .sl (.ex 9 1) (S.map .str)), (6, .int .i64 i)], [], σ⟩) (Pr := fun i => i ≤ l.length) (μ := fun i => l.length - i) (a := 0) (by simp) (by simp) ?_
    intro i hi
    by_cases hc : i < l.length
    · obtain ⟨x, hx⟩ : ∃ z, l[i]? = some z := ⟨_, List.getElem?_eq_getElem hc⟩
      simp (maxSteps := 4000000) [List.getElem?_cons_zero, List.getElem?_cons_succ, hc]
      refine Post_loop (I := fun k : Nat => ⟨[(0, .sl .sh (l.map .str)), (5, .sl (.ex 9 1) (S.map .str)), (6, .int .i64 i), (7, .int .i64 ((l.take k).count x : Nat)), (8, .int .i64 ((S.take k).count x : Nat)), (9, .int .i64 k)], [], σ⟩) (Pr := fun k => k ≤ l.length) (μ := fun k => l.length - k) (a := 0) (by simp) (by simp) ?_
      intro k hk
      by_cases hkc : k < l.length
      · obtain ⟨y, hy⟩ : ∃ z, l[k]? = some z := ⟨_, List.getElem?_eq_getElem hkc⟩
        obtain ⟨z, hz⟩ : ∃ z, S[k]? = some z := ⟨_, List.getElem?_eq_getElem (by omega)⟩
        have c1 := cnt_step (x := x) hy
        have c2 := cnt_step (x := x) hz
        have b1 : (l.take k).count x ≤ 60 := by have := List.count_le_length (a := x) (l := l.take k); simp at this; omega
        have b2 : (S.take k).count x ≤ 60 := by have := List.count_le_length (a := x) (l := S.take k); simp at this; omega
        obtain ⟨a1, ha1⟩ : ∃ z, (l.take k).count x = z := ⟨_, rfl⟩
        obtain ⟨a2, ha2⟩ : ∃ z, (S.take k).count x = z := ⟨_, rfl⟩
        rw [ha1] at c1 b1
        rw [ha2] at c2 b2
        have w1 : IntKind.i64.wrap ((k : Int) + 1) = (k : Int) + 1 := wrap64 (by omega)
        have w2 : IntKind.i64.wrap ((a1 : Int) + 1) = (a1 : Int) + 1 := wrap64 (by omega)
        have w3 : IntKind.i64.wrap ((a2 : Int) + 1) = (a2 : Int) + 1 := wrap64 (by omega)
        have hk2 : k < S.length := by omega
        by_cases e1 : y = x
        · by_cases e2 : z = x
          · have e1' : (y == x) = true := by simpa using e1
            have e2' : (z == x) = true := by simpa using e2
            simp (maxSteps := 4000000) [List.getElem?_cons_zero, List.getElem?_cons_succ, -getElem?_pos, ha1, ha2, hkc, hk2, hc, hx, hy, hz, e1', e2', w1, w2, w3]
            exact ⟨k + 1, by omega, by omega, by rw [c1, if_pos e1]; simp, by rw [c2, if_pos e2]; simp, by simp⟩
          · have e1' : (y == x) = true := by simpa using e1
            have e2' : (z == x) = false := by simpa using e2
            simp (maxSteps := 4000000) [List.getElem?_cons_zero, List.getElem?_cons_succ, -getElem?_pos, ha1, ha2, hkc, hk2, hc, hx, hy, hz, e1', e2', w1, w2]
            exact ⟨k + 1, by omega, by omega, by rw [c1, if_pos e1]; simp, by rw [c2, if_neg e2]; simp, by simp⟩
        · by_cases e2 : z = x
          · have e1' : (y == x) = false := by simpa using e1
            have e2' : (z == x) = true := by simpa using e2
            simp (maxSteps := 4000000) [List.getElem?_cons_zero, List.getElem?_cons_succ, -getElem?_pos, ha1, ha2, hkc, hk2, hc, hx, hy, hz, e1', e2', w1, w3]
            exact ⟨k + 1, by omega, by omega, by rw [c1, if_neg e1]; simp, by rw [c2, if_pos e2]; simp, by simp⟩
          · have e1' : (y == x) = false := by simpa using e1
            have e2' : (z == x) = false := by simpa using e2
            simp (maxSteps := 4000000) [List.getElem?_cons_zero, List.getElem?_cons_succ, -getElem?_pos, ha1, ha2, hkc, hk2, hc, hx, hy, hz, e1', e2', w1]
            exact ⟨k + 1, by omega, by omega, by rw [c1, if_neg e1]; simp, by rw [c2, if_neg e2]; simp, by simp⟩
      · have hcx := hcnt x
        have t1 : l.take k = l := List.take_of_length_le (by omega)
        have t2 : S.take k = S := List.take_of_length_le (by omega)
        rw [t1, t2, hcx]
        obtain ⟨a1, ha1⟩ : ∃ z, l.count x = z := ⟨_, rfl⟩
        have w1 : IntKind.i64.wrap ((i : Int) + 1) = (i : Int) + 1 := wrap64 (by omega)
        rw [ha1]
        cases i with
        | zero =>
          simp (maxSteps := 4000000) [List.getElem?_cons_zero, List.getElem?_cons_succ, -regionA_true, hkc]
          refine Post_bndD [] _ (by rfl) (by simp (maxSteps := 4000000) [List.getElem?_cons_zero, List.getElem?_cons_succ, ]; exact rfl) ?_
          repeat (first
            | refine PostD_go _ (by rfl) (by rfl) (by simp (maxSteps := 4000000) [List.getElem?_cons_zero, List.getElem?_cons_succ, ]; exact rfl) (by first | exact .inl rfl | exact .inr rfl) (by rfl) ?_
            | refine PostD_no (by rfl) (by rfl) ?_)
          refine PostD_end ?_
          simp (maxSteps := 4000000) [List.getElem?_cons_zero, List.getElem?_cons_succ, w1]
          exact ⟨1, by omega, by omega, by decide⟩
        | succ j =>
          obtain ⟨y, hy⟩ : ∃ z, S[j]? = some z := ⟨_, List.getElem?_eq_getElem (by omega)⟩
          obtain ⟨z, hz⟩ : ∃ z, S[j + 1]? = some z := ⟨_, List.getElem?_eq_getElem (by omega)⟩
          have hle := srt_get tp hSs (Nat.le_succ j) hy hz
          have hcmp := cmpB_eq y z (by have := hSQ y (List.mem_of_getElem? hy); omega) (by have := hSQ z (List.mem_of_getElem? hz); omega)
          have hj : j < S.length := by omega
          obtain ⟨v, hv⟩ : ∃ v, j + 1 = v := ⟨_, rfl⟩
          have hv2 : (j : Int) + 1 = (v : Int) := by omega
          have w0 : IntKind.i64.wrap ((v : Int) - 1) = (j : Int) := by rw [wrap64 (by omega)]; omega
          have hvS : v < S.length := by omega
          have hv0 : 0 < v := by omega
          have hng : ¬ 0 < cmpB y z := by omega
          rw [hv] at hz hc
          rw [hv] at w1
          simp (maxSteps := 4000000) [List.getElem?_cons_zero, List.getElem?_cons_succ, -regionA_true, hkc, hv2]
          refine Post_bndD [] _ (by rfl) (by simp (maxSteps := 4000000) [List.getElem?_cons_zero, List.getElem?_cons_succ, ]; exact rfl) ?_
          repeat (first
            | refine PostD_go _ (by rfl) (by rfl) (by simp (maxSteps := 4000000) [List.getElem?_cons_zero, List.getElem?_cons_succ, -getElem?_pos, hv0, w0, hj, hvS, hy, hz, hcmp]; exact rfl) (by first | exact .inl rfl | exact .inr rfl) (by rfl) ?_
            | refine PostD_no (by rfl) (by rfl) ?_)
          refine PostD_end ?_
          simp (maxSteps := 4000000) [List.getElem?_cons_zero, List.getElem?_cons_succ, hng, w1]
          exact ⟨v + 1, by omega, by omega, by simp⟩
    · simp (maxSteps := 4000000) [List.getElem?_cons_zero, List.getElem?_cons_succ, hc, Tryz.results10]
end Go.Proofs.Tryz.Ai
end
section
/- A statement's arguments, as the evaluation holds them. No program is in sight. -/
namespace Go.AI
open Go.RowKit Go.ChangeShapes
set_option linter.unusedVariables false

theorem plain_addr {w : World} {a : Addr} {v : Value} (h : w.cell? a = some v) : ∃ b off, a = ⟨b, off, none⟩ := by
  obtain ⟨b, off, s⟩ := a
  cases s with
  | none => exact ⟨b, off, rfl⟩
  | some s =>
    simp only [World.cell?] at h
    split at h <;> simp at h

section
variable {H : Type} {enc : TypeId × Value → H} {P : Program} {W : World} {t e : TypeId} {α : Type}

/-- what is read at a type is a value of α, held as R says; Q: what of the datum -/
structure Reads (enc : TypeId × Value → H) (P : Program) (W : World) (t : TypeId) {α : Type} (R : α → AV) (Q : α → DataW H → Prop) : Prop where
  cells : ∀ a, (R a).cells.length = P.cellsOf t ∧ (∀ c ∈ (R a).cells, plain c = true)
  pos : 0 < P.cellsOf t
  rd : ∀ fuel cs x, DataW.trod enc P W 0 (fun _ => true) true fuel t cs = some x → ∃ a, Q a x.1 ∧ cs.length = P.cellsOf t ∧ ∀ j c, (R a).cells[j]? = some c → Rep W.heap.size gh0 W (cs.getD j undef) c

theorem one_cell {v : Value} {c : AV} (h : Rep W.heap.size gh0 W v c) : ∀ j c', [c][j]? = some c' → Rep W.heap.size gh0 W ([v].getD j undef) c' := by
  intro j c' e
  cases j with
  | zero => simp at e; subst e; exact h
  | succ j => simp at e

theorem Reads.int {k : IntKind} (ht : P.underlying t = some (.int k)) (hc : P.cellsOf t = 1) : Reads enc P W t (fun n : Int => AV.int k n) (fun n d => d = .lit (.int k n) ∧ (Lit.int k n).wf = true) := by
  refine ⟨fun a => ⟨by rw [hc]; rfl, fun c h => by simp [AV.cells] at h; subst h; rfl⟩, by omega, fun fuel cs x h => ?_⟩
  obtain ⟨n, rfl, rfl, hw⟩ := DataW.trod_int ht h
  exact ⟨n, ⟨rfl, hw⟩, by simp [hc], one_cell (.int k n)⟩
theorem Reads.u8 (ht : P.underlying t = some (.int .u8)) (hc : P.cellsOf t = 1) : Reads enc P W t AV.u8 (fun n d => d = .lit (.int .u8 n.toNat)) := by
  refine ⟨fun a => ⟨by rw [hc]; rfl, fun c h => by simp [AV.cells, AV.u8] at h; subst h; rfl⟩, by omega, fun fuel cs x h => ?_⟩
  obtain ⟨n, rfl, rfl, hw⟩ := DataW.trod_int ht h
  have hb := bounds_u8 hw
  obtain ⟨m, rfl⟩ := Int.eq_ofNat_of_zero_le hb.1
  have hm : (UInt8.ofNat m).toNat = m := by simp only [UInt8.toNat_ofNat']; omega
  exact ⟨UInt8.ofNat m, by rw [hm], by simp [hc], one_cell (by rw [AV.u8, hm]; exact .int _ _)⟩
theorem Reads.bool (ht : P.underlying t = some .bool) (hc : P.cellsOf t = 1) : Reads enc P W t AV.bool (fun b d => d = .lit (.bool b)) := by
  refine ⟨fun a => ⟨by rw [hc]; rfl, fun c h => by simp [AV.cells] at h; subst h; rfl⟩, by omega, fun fuel cs x h => ?_⟩
  cases fuel with
  | zero => simp [DataW.trod] at h
  | succ n =>
    unfold DataW.trod at h
    rw [ht] at h
    split at h
    all_goals first
      | (rename_i b _; injection h with h; subst h; exact ⟨b, rfl, by simp [hc], one_cell (.bool _)⟩)
      | (simp at *; done)
theorem Reads.str (ht : P.underlying t = some .string) (hc : P.cellsOf t = 1) : Reads enc P W t AV.str (fun s d => d = .lit (.string s) ∧ s.length ≤ maxLen) := by
  refine ⟨fun a => ⟨by rw [hc]; rfl, fun c h => by simp [AV.cells] at h; subst h; rfl⟩, by omega, fun fuel cs x h => ?_⟩
  obtain ⟨s, rfl, rfl, hw⟩ := DataW.trod_string ht h
  exact ⟨s.data.toList, ⟨rfl, by simpa using hw⟩, by simp [hc], one_cell (.str s)⟩

theorem cells_get {w : World} {a : Addr} {n : Nat} {cs : List Value} (h : w.cells? 0 a n = some cs) : cs.length = n ∧ ∀ j, j < n → w.cell? (a.add j) = some (cs.getD j undef) := by
  unfold World.cells? at h
  rw [if_pos (Nat.zero_le _)] at h
  have hl := mapM_some_length h
  refine ⟨by simpa using hl, fun j hj => ?_⟩
  have h1 := mapM_some_get h j j (by simp [hj])
  have hlt : j < cs.length := by rw [hl]; simpa using hj
  rw [h1, List.getElem?_eq_getElem hlt]
  simp [List.getD, List.getElem?_eq_getElem hlt]

theorem flat_at {α : Type} {R : α → AV} (l : List α) (i j : Nat) (c : AV) (h : ((l.map R)[i]?.bind fun e => e.cells[j]?) = some c) : ∃ a, l[i]? = some a ∧ (R a).cells[j]? = some c := by
  rw [List.getElem?_map] at h
  cases hx : l[i]? with
  | none => rw [hx] at h; cases h
  | some a => rw [hx] at h; exact ⟨a, rfl, h⟩
theorem choose_list {α : Type} {Q : Nat → α → Prop} (n : Nat) (h : ∀ i, i < n → ∃ z, Q i z) : ∃ l : List α, l.length = n ∧ ∀ (i : Nat) (z : α), l[i]? = some z → Q i z := by
  induction n with
  | zero => exact ⟨[], rfl, fun i z e => by simp at e⟩
  | succ n ih =>
    obtain ⟨l, hl, hq⟩ := ih fun i hi => h i (by omega)
    obtain ⟨z, hz⟩ := h n (by omega)
    refine ⟨l ++ [z], by simp [hl], fun i y e => ?_⟩
    rw [List.getElem?_append] at e
    split at e
    · exact hq i y e
    · rename_i hi
      have : i = n := by
        rcases Nat.lt_or_ge (i - l.length) 1 with q | q
        · omega
        · rw [List.getElem?_eq_none (by simpa using q)] at e; cases e
      subst this
      simp [hl] at e; subst e; exact hz

/-- a slice's datum, by its elements' -/
def slQ {α : Type} (Q : α → DataW H → Prop) (l : List α) (d : DataW H) : Prop :=
  (l = [] ∧ d = .nil) ∨ ∃ ds rest, d = .slice ds rest ∧ l.length = ds.length ∧ l.length ≤ maxLen ∧ ∀ (i : Nat) (a : α) (x : DataW H), l[i]? = some a → ds[i]? = some x → Q a x

theorem Reads.slice {R : α → AV} {Q : α → DataW H → Prop} (h : Reads enc P W e R Q) (ht : P.underlying t = some (.slice e)) (hc : P.cellsOf t = 1) : Reads enc P W t (fun l : List α => AV.sl .sh (l.map R)) (slQ Q) := by
  refine ⟨fun a => ⟨by rw [hc]; rfl, fun c q => by simp [AV.cells] at q; subst q; rfl⟩, by omega, fun fuel cs x hx => ?_⟩
  rcases Go.Deep.open_slice ht hx with ⟨rfl, rfl⟩ | ⟨a, len, cap, m, n, D, Pl, rfl, hb, hl, hm, hm2, rfl, hel⟩
  · exact ⟨[], .inl ⟨rfl, rfl⟩, by simp [hc], one_cell (.slnil _)⟩
  · simp only [if_true] at hm2
    subst hm2
    obtain ⟨l, hl2, hq⟩ := choose_list (Q := fun i (z : α) => Q z (D i) ∧ ∀ j, j < P.cellsOf e → ∃ v, W.cell? ((a.add (i * P.cellsOf e)).add j) = some v ∧ ∀ c, (R z).cells[j]? = some c → Rep W.heap.size gh0 W v c) len (by
      intro i hi
      obtain ⟨cs', h1, h2⟩ := hel i (by omega)
      obtain ⟨z, h3, h4, h5⟩ := h.rd _ _ _ h2
      obtain ⟨h6, h7⟩ := cells_get h1
      exact ⟨z, h3, fun j hj => ⟨_, h7 j hj, fun c hc => h5 j c hc⟩⟩)
    subst hl2
    refine ⟨l, .inr ⟨_, _, rfl, by simp, by omega, fun i z x h1 h2 => ?_⟩, by simp [hc], one_cell ?_⟩
    · have hi : i < l.length := (List.getElem?_eq_some_iff.1 h1).1
      rw [List.getElem?_map, List.getElem?_range hi] at h2
      simp at h2; subst h2
      exact (hq i z h1).1
    · by_cases h0 : l = []
      · subst h0; exact   .sl0 a m .sh (by simp) hm
      · have hpos := h.pos
        have hlen : 0 < l.length := List.length_pos_iff.2 h0
        obtain ⟨z0, hz0⟩ : ∃ z, l[0]? = some z := ⟨_, List.getElem?_eq_getElem hlen⟩
        obtain ⟨v0, hv0, _⟩ := (hq 0 z0 hz0).2 0 hpos
        have hadd : ∀ (a : Addr) (i : Nat) b off, a = ⟨b, off, none⟩ → a.add i = ⟨b, off + i, none⟩ := fun a i b off q => by subst q; unfold Addr.add; split <;> simp_all
        obtain ⟨b, off, rfl⟩ : ∃ b off, a = ⟨b, off, none⟩ := by
          obtain ⟨b, off, s⟩ := a
          cases s with
          | none => exact ⟨b, off, rfl⟩
          | some s =>
            obtain ⟨b', off', q⟩ := plain_addr hv0
            simp [Addr.add] at q
        have hrl : (l.map R).length = l.length := by simp
        rw [← hrl]
        rw [hadd _ _ b off rfl, hadd _ _ b _ rfl] at hv0
        have hblk : b < W.heap.size := World.block_lt_of_cell? W _ hv0
        have hall : ∀ k, k < l.length * P.cellsOf e → ∃ z v, l[k / P.cellsOf e]? = some z ∧ W.cell? ⟨b, off + k, none⟩ = some v ∧ ∀ c, (R z).cells[k % P.cellsOf e]? = some c → Rep W.heap.size gh0 W v c := by
          intro k hk
          have hki : k / P.cellsOf e < l.length := (Nat.div_lt_iff_lt_mul hpos).2 hk
          obtain ⟨z, hz⟩ : ∃ z, l[k / P.cellsOf e]? = some z := ⟨_, List.getElem?_eq_getElem hki⟩
          obtain ⟨v, hv, hr⟩ := (hq _ z hz).2 (k % P.cellsOf e) (Nat.mod_lt _ hpos)
          have : (Addr.add (Addr.add ⟨b, off, none⟩ (k / P.cellsOf e * P.cellsOf e)) (k % P.cellsOf e)) = ⟨b, off + k, none⟩ := by
            rw [hadd _ _ b off rfl, hadd _ _ b _ rfl]
            have := Nat.div_add_mod k (P.cellsOf e)
            rw [Nat.mul_comm] at this
            rw [Nat.add_assoc, this]
          rw [this] at hv
          exact ⟨z, v, hz, hv, hr⟩
        refine .sl b off m (P.cellsOf e) .sh (l.map R) (fun k => (W.cell? ⟨b, off + k, none⟩).getD undef) (by simp) hpos (by simpa using hl) hm ?_ ?_ ?_
        · intro x hx
          obtain ⟨z, _, rfl⟩ := List.mem_map.1 hx
          exact h.cells z
        · intro k hk
          obtain ⟨z, v, h1, h2, h3⟩ := hall k (by simpa using hk)
          exact ⟨by rw [h2]; rfl, .inl hblk⟩
        · intro i j c hc'
          obtain ⟨z, hz, hzc⟩ := flat_at l i j c hc'
          have hi : i < l.length := (List.getElem?_eq_some_iff.1 hz).1
          have hj : j < P.cellsOf e := by rw [← (h.cells z).1]; exact (List.getElem?_eq_some_iff.1 hzc).1
          obtain ⟨z', v, h1, h2, h3⟩ := hall (i * P.cellsOf e + j) (by
            have : (i + 1) * P.cellsOf e ≤ l.length * P.cellsOf e := Nat.mul_le_mul_right _ hi
            rw [Nat.add_mul] at this; omega)
          have e1 : (i * P.cellsOf e + j) / P.cellsOf e = i := by rw [Nat.mul_comm, Nat.mul_add_div hpos, Nat.div_eq_of_lt hj]; rfl
          have e2 : (i * P.cellsOf e + j) % P.cellsOf e = j := by rw [Nat.mul_comm, Nat.mul_add_mod, Nat.mod_eq_of_lt hj]
          rw [e1, hz] at h1; injection h1 with h1; subst h1
          rw [e2] at h3
          simp only [h2, Option.getD_some]
          exact h3 c hzc

def oneT (d : Option TypeDesc) : Bool := match d with
  | some (.int _) => true
  | some .string => true
  | some .bool => true
  | some (.slice _) => true
  | _ => false
theorem val_one {r : Reach} {b0 : Nat} {v : Value} (hk : oneT (P.underlying t) = true) (h : Value.okWide P W r b0 t v) : v.cells = #[v] := by
  unfold Value.okWide at h
  cases hd : P.underlying t with
  | none => rw [hd] at hk; cases hk
  | some d =>
    rw [hd] at hk h
    cases d <;> simp only [oneT, Bool.false_eq_true] at hk
    all_goals
      simp only at h
      unfold Cell.okWide at h
      rw [hd] at h
      try unfold Cell.ok at h
      try rw [hd] at h
      cases v <;> first | rfl | (simp at h)

theorem Reads.arg1 {R : α → AV} {Q : α → DataW H → Prop} (h : Reads enc P W t R Q) (hR : ∀ a, (R a).cells = [R a]) (hk : oneT (P.underlying t) = true) {r : Reach} {b0 : Nat} {v : Value} {d : DataW H} {p : List MemPlace}
    (hv : Value.okWide P W r b0 t v) (ht : DataW.Trod enc P W 0 (fun _ => true) true t v d p) : ∃ a, Q a d ∧ Rep W.heap.size gh0 W v (R a) ∧ pers (R a) = true ∧ quiet (R a) = true := by
  obtain ⟨fuel, hf⟩ := ht
  rw [val_one hk hv] at hf
  obtain ⟨a, h1, h2, h3⟩ := h.rd _ _ _ hf
  have h4 := (h.cells a).2 (R a) (by rw [hR]; simp)
  simp only [plain, Bool.and_eq_true] at h4
  refine ⟨a, h1, by have := h3 0 (R a) (by rw [hR]; rfl); simpa using this, ?_, h4.2⟩
  have h5 := h4.1
  cases hq : R a <;> rw [hq] at h5 <;> first | rfl | simp [cell1] at h5
theorem Reads.argS {R : α → AV} {Q : α → DataW H → Prop} (h : Reads enc P W t R Q) (hR : ∀ a, ∃ cs, R a = .agg cs) {fs : Array Field} (hk : P.underlying t = some (.struct fs)) {r : Reach} {b0 : Nat} {v : Value} {d : DataW H} {p : List MemPlace}
    (hv : Value.okWide P W r b0 t v) (ht : DataW.Trod enc P W 0 (fun _ => true) true t v d p) : ∃ a, Q a d ∧ Rep W.heap.size gh0 W v (R a) ∧ pers (R a) = true ∧ quiet (R a) = true := by
  obtain ⟨fuel, hf⟩ := ht
  unfold Value.okWide at hv
  rw [hk] at hv
  obtain ⟨vs, rfl, _, _⟩ := hv
  obtain ⟨a, h1, h2, h3⟩ := h.rd _ _ _ hf
  obtain ⟨cs, hcs⟩ := hR a
  have h4 := h.cells a
  rw [hcs] at h4 h3
  simp only [Value.cells, AV.cells] at h2 h3 h4
  refine ⟨a, h1, ?_⟩
  rw [hcs]
  refine ⟨.agg vs cs (by rw [h4.1, ← h2]; simp) h4.2 fun j c hc => ?_, rfl, rfl⟩
  have := h3 j c hc
  simpa [Array.getD_eq_getD_getElem?, List.getD] using this
/-- behind the call the arguments read as they did -/
theorem trodAll_keep (hl : laidOutB P = true) {W' : World} (hb : Below W.heap.size W W') : ∀ {ts : List TypeId} {vs : List Value} {ds : List (DataW H)} {ps : List MemPlace}, (∀ t ∈ ts, P.readableRec t = true ∧ t < P.types.size) →
    DataW.TrodAll enc P W 0 (fun _ => true) true ts vs ds ps → (∀ x ∈ ps, x.block < W.heap.size) → DataW.TrodAll enc P W' 0 (fun b => decide (b < W.heap.size)) true ts vs ds ps
  | [], [], [], ps, _, h, _ => h
  | t :: ts, [], [], ps, _, h, _ => by simp [DataW.TrodAll] at h
  | [], v :: vs, [], ps, _, h, _ => by simp [DataW.TrodAll] at h
  | [], [], d :: ds, ps, _, h, _ => by simp [DataW.TrodAll] at h
  | t :: ts, v :: vs, [], ps, _, h, _ => by simp [DataW.TrodAll] at h
  | t :: ts, [], d :: ds, ps, _, h, _ => by simp [DataW.TrodAll] at h
  | [], v :: vs, d :: ds, ps, _, h, _ => by simp [DataW.TrodAll] at h
  | t :: ts, v :: vs, d :: ds, ps, ht, h, hp => by
    obtain ⟨p, q, h1, h2, rfl⟩ := h
    refine ⟨p, q, Below.trod hl (ht t (by simp)).1 (ht t (by simp)).2 h1 hb fun x hx => hp x (List.mem_append_left _ hx), ?_, rfl⟩
    exact trodAll_keep hl hb (fun t h => ht t (List.mem_cons_of_mem _ h)) h2 fun x hx => hp x (List.mem_append_right _ hx)
theorem laidVars_mem {w : World} : ∀ {laid : List (String × DataW Unit)} {ps : List MemPlace} {n : String} {d : DataW Unit}, DataW.LaidVars P w laid ps → (n, d) ∈ laid →
    ∃ g t cs fuel p, P.globalNamed n = some g ∧ (P.globals[g]?).map (·.type) = some t ∧ w.var? P n = some cs ∧ DataW.trod (fun _ => ()) P w 0 (fun _ => true) false fuel t cs.toList = some (d, p)
  | [], _, _, _, _, hm => by cases hm
  | x :: r, ps, n, d, h, hm => by
    obtain ⟨g, t, cs, fuel, p, q, h1, h2, h3, h4, h5, _⟩ := h
    rcases List.mem_cons.1 hm with e | hm
    · subst e; exact ⟨g, t, cs, fuel, p, h1, h2, h3, h4⟩
    · exact laidVars_mem h5 hm
theorem tabIs_of_mem {name : String} {k : IntKind} {zs : List Int} {laid : List (String × DataW Unit)} {g : Nat} {n : Nat} (hm : (name, Lib.tabData k zs) ∈ laid)
    (hg : P.globalNamed name = some g) (hty : (P.globals[g]?).map (·.type) = some t) (ht : P.underlying t = some (.array n e)) (he : P.underlying e = some (.int k)) (hce : P.cellsOf e = 1) (hct : P.cellsOf t = n)
    (h : laidMet P laid W) : Lib.TabIs P W name k zs := by
  obtain ⟨ps, hl, _⟩ := h
  obtain ⟨g', t', cs, fuel, p, hg', ht', hvar, hd⟩ := laidVars_mem hl hm
  obtain rfl := Option.some.inj (hg.symm.trans hg')
  obtain rfl := Option.some.inj (hty.symm.trans ht')
  unfold Lib.TabIs
  rw [hvar, ← Lib.cells_of_tab ht he hce hct hd]
end
end Go.AI
end
section
/- The frame of ModSorted: from the evaluation to the given statement. -/
namespace Go.Proofs.YthdpejligoblbaaGreatDoor.modSorted
open Go Go.AI Go.ChangeShapes Go.WideShapes Go.ChangeAt Go.RowKit
set_option linter.unusedVariables false

theorem own : ownKnob Tryz.prog.godebug = none := by kernel_rfl
theorem mixed : Tryz.prog.follows .mixedOrders = true := by kernel_rfl
theorem laidOut : laidOutB Tryz.prog = true := by kernel_rfl

theorem walk (a0 : List (List UInt8)) (v0 : Value) (W : World) (hl : Go.Proofs.Tryz.Ai.Laid W) (r0 : Rep W.heap.size gh0 W v0 (.sl .sh (a0.map .str)))
    (he : Go.Proofs.Tryz.Ai.ev 10 [.sl .sh (a0.map .str)] [] = some (.bool true, [])) :
    Calls Tryz.prog 10 #[v0] W fun e w' => e = .returned (.bool true) ∧ Below W.heap.size W w' :=
  Go.AI.top (s' := []) mixed rfl (Go.Proofs.Tryz.Ai.T_ok hl) (by rfl)
    (fun j c h => by
      match j, h with
      | 0, h => simp at h; subst h; exact ⟨r0, rfl, rfl⟩
      | j + 1, h => simp at h)
    he

/-- the table of powers, as the row lays it -/
theorem laid_of {W : World} (hL : laidMet Tryz.prog Rows.modSortedRow.laid W) : Go.Proofs.Tryz.Ai.Laid W :=
  tabIs_of_mem (g := 3) (t := 138) (e := 121) (n := 20) (by
    have : ("internal/strconv.uint64pow10", Rows.laid_internal_strconv_uint64pow10) ∈ Rows.modSortedRow.laid := by simp [Rows.modSortedRow]
    have e : (Rows.laid_internal_strconv_uint64pow10 : DataW Unit) = Lib.tabData .u64 Lib.pow10Tab := by kernel_rfl
    rw [e] at this; exact this) (by kernel_rfl) (by kernel_rfl) Tryz.underlying138 Tryz.underlying121 (by kernel_rfl) (by kernel_rfl) hL

theorem readable : ∀ t ∈ Tryz.f10.params.toList, Tryz.prog.readableRec t = true ∧ t < Tryz.prog.types.size := by
  rw [Tryz.params10]
  intro t ht
  simp only [List.mem_cons, List.mem_nil_iff, or_false] at ht
  rcases ht with rfl <;> exact ⟨by kernel_rfl, of_decide_eq_true (by kernel_rfl)⟩

set_option maxRecDepth 100000 in
theorem contract (H : Type) (enc : TypeId × Value → H) (W : World) (base : Nat) (args : Array Value) (ds gs : List (DataW H)) (before : List MemPlace)
    (hval : ∀ (j : Nat) t v, Tryz.f10.params[j]? = some t → args[j]? = some v → Value.okWide Tryz.prog W .any base t v)
    (hW : DataW.Whole enc Tryz.prog Tryz.f10.params.toList Rows.modSortedSpec.vars false W args.toList ds gs before) (hl : Go.Proofs.Tryz.Ai.Laid W) :
    Calls Tryz.prog 10 args W fun e W' => ∃ v, e = .returned v ∧ Rows.modSortedSpec.post enc Tryz.prog Tryz.f10 false true false false W args v W' := by
  have hW' := hW
  obtain ⟨p, q, hA0, hV, rfl, hfz, hnd⟩ := hW
  have hA : DataW.TrodAll enc Tryz.prog W 0 (fun _ => true) true Tryz.f10.params.toList args.toList ds p := hA0
  have hAk := hA
  rw [Tryz.params10] at hA hval
  obtain ⟨v0, vs0, d0, ds0, p0, q0, hargs0, rfl, rfl, h0, r0⟩ := trodAll_cons hA
  obtain ⟨e1, e2, e3⟩ := trodAll_nil r0
  obtain rfl : args = #[v0] := by cases args; simp_all
  subst e2 e3
  obtain ⟨rfl, rfl⟩ := trodVars_none hV
  obtain ⟨a0, Q0, R0, _⟩ := (Reads.slice (Reads.str Tryz.underlying9 (by kernel_rfl)) Tryz.underlying24 (by kernel_rfl)).arg1 (enc := enc) (W := W) (fun _ => rfl) (by kernel_rfl) (hval 0 24 v0 rfl rfl) h0
  have hlt : ∀ x ∈ (p0 : List MemPlace), True := fun _ _ => trivial
  refine (walk a0 v0 W hl R0 (by have := Go.Proofs.Tryz.Ai.sortedLaw_eq a0 []; exact this)).mono fun e W' ⟨he, bel⟩ => ?_
  subst he
  exact ⟨_, rfl, _, _, _, [], _, [], hW', trodAll_mk1 (shut_bool Tryz.underlying4 _), trodAll_keep laidOut bel readable hAk (fun x hx => by simpa using hW'.lt x (by simpa using hx)), rfl, bel.frame _, fun h => by cases h⟩

noncomputable def laidWorld (os : Os) : World := World.laidAll Tryz.prog os Rows.modSortedRow.laid
theorem laid_met (os : Os) : laidMet Tryz.prog Rows.modSortedRow.laid ((laidWorld os).forCall (fun _ _ => 0) ⟨#[], #[.slice none 0 0], []⟩).memory :=
  laidMet_laidAll _ (by kernel_rfl) (by kernel_rfl)
theorem reads (os : Os) {H : Type} (enc : TypeId × Value → H) : ∃ places, DataW.whole enc Tryz.prog ((laidWorld os).forCall (fun _ _ => 0) ⟨#[], #[.slice none 0 0], []⟩).memory Tryz.f10.params.toList Rows.modSortedSpec.vars false (#[.slice none 0 0] : Array Value).toList 8 = some ([.nil], [], places) :=
  ⟨[], by kernel_rfl⟩
theorem witness (os : Os) {H : Type} (enc : TypeId × Value → H) : ∃ (w : World) (tape : Tape) (i : Input), w.os = os ∧ (w.forCall tape i).Shaped Tryz.checked.prog ∧ i.vars = [] ∧ Input.okWide Tryz.checked.prog (w.forCall tape i) .any w.heap.size 10 i ∧
    (OpenSpec.ofChange Rows.modSortedSpec).preRow enc Tryz.checked.prog Tryz.f10 Rows.modSortedRow.domain false Rows.modSortedRow.laid (w.forCall tape i).memory i.args ∧ ({} : Assume).holds Tryz.checked.prog (lone (Frame.enter Tryz.checked.prog 10 i.args .normal) [] (w.forCall tape i)) := by
  obtain ⟨places, hx⟩ := reads os enc
  have hok : Input.okWideB Tryz.checked.prog ((laidWorld os).forCall (fun _ _ => 0) ⟨#[], #[.slice none 0 0], []⟩) 10 ⟨#[], #[.slice none 0 0], []⟩ = true := by kernel_rfl
  exact ⟨laidWorld os, fun _ _ => 0, ⟨#[], #[.slice none 0 0], []⟩, World.laidAll_os _ _ _, World.shaped_of_ZipB (by kernel_rfl) (by kernel_rfl), (Input.okWide_of_okWideB (base := 0) hok).1, (Input.okWide_of_okWideB hok).2,
    OpenSpec.preRow_of_cond 8 hx (by kernel_rfl) (fun k hk => by cases hk) (by kernel_rfl) (laid_met os), by
    simp only [Assume.holds]
    exact ⟨by simp, by simp, fun _ => Modest.zero, by simp, by simp⟩⟩

set_option maxRecDepth 100000 in
theorem lifted (os : Os) (started : os.Started) (H : Type) (enc : TypeId × Value → H) (F : Stop.Interp) :
    ReturnsInHanded {} Tryz.checked os 10 .any ((OpenSpec.ofChange Rows.modSortedSpec).preRow enc Tryz.prog Tryz.f10 Rows.modSortedRow.domain false Rows.modSortedRow.laid) (((OpenSpec.ofChange Rows.modSortedSpec).at F).post enc Tryz.prog Tryz.f10 false true false false) := by
  refine returnsInHanded_of_row (C := Tryz.checked) (s := (OpenSpec.ofChange Rows.modSortedSpec)) own started (by kernel_rfl) Tryz.func10 (witness os enc) ?_
  intro W base args ds gs before hval hW _ hcond _ hL _ _
  exact contract H enc W base args ds gs before hval hW (laid_of (by rw [← MakeChecks.laidMetH_plain _ _ _ (by kernel_rfl)]; exact hL))

theorem said : Rows.ModSortedSaid :=
  OpenClaim.holds_of_cond 10 Tryz.f10 rfl rfl rfl rfl rfl rfl rfl ⟨rfl, rfl, rfl, rfl, rfl⟩ rfl rfl rfl rfl rfl (by kernel_rfl) Tryz.func10 (by kernel_rfl)
    (of_decide_eq_true (by kernel_rfl)) (by unfold Func.isWrapper; first | (rw [if_pos (by decide +kernel)]; kernel_rfl) | (rw [if_neg (by decide +kernel)]; exact ⟨rfl, rfl⟩))
    (fun os started H enc _ F => by rw [OpenClaim.pre_eq_preRow]; exact lifted os started H enc F)

theorem plain (f : FuncId) (fn : Func) (hf : Tryz.pinned.checked.prog.funcNamed "mews/mewslaw3.ModSorted" = some f) (hfn : Tryz.pinned.checked.prog.funcs[f]? = some fn) :
    true = Tryz.pinned.checked.prog.looks [] ∧ ∀ (j : Nat) t, fn.params[j]? = some t → Tryz.pinned.checked.prog.wantsStandIn t = false := by
  obtain rfl : f = 10 := Option.some.inj ((show Tryz.prog.funcNamed "mews/mewslaw3.ModSorted" = some 10 by kernel_rfl).symm.trans hf) |>.symm
  obtain rfl : fn = Tryz.f10 := (Option.some.inj (Tryz.func10.symm.trans hfn)).symm
  refine ⟨by kernel_rfl, fun j t ht => ?_⟩
  have hm : t ∈ Tryz.f10.params.toList := Array.mem_toList_iff.2 (Array.mem_of_getElem? ht)
  rw [Tryz.params10] at hm
  simp only [List.mem_cons, List.mem_nil_iff, or_false] at hm
  rcases hm with rfl
  · exact (show Tryz.prog.wantsStandIn 24 = false by kernel_rfl)

/-- the card -/
theorem card : Rows.ModSortedCardSaid :=
  Claim7.holds_tied_plain_at .later [] _ _ _ _ said (fun _ h => by cases h) (by kernel_rfl) (fun _ h => by cases h) modSorted_row_tie rfl ⟨rfl, rfl⟩ (by kernel_rfl) rfl plain (by kernel_rfl)
end Go.Proofs.YthdpejligoblbaaGreatDoor.modSorted
end
