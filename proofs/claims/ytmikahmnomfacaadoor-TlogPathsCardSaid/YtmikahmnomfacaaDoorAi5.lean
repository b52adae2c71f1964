/- Part 5 of a proof: a Go function is evaluated on abstract values (texts Bld .. Sha2); no conditions beyond those of each theorem. -/
import Derived.Test.YtmikahmnomfacaaDoorAi4
import Derived.Test.YtmikahmnomfacaaDoorProg
import Derived.Lib.Strings
import Derived.Lib.Slices
import Derived.Lib.Walk
import Derived.Lib.Builder
import Derived.Lib.UnsafeStr
import Derived.Lib.MakeNoZero
import Derived.WalkKit
import Derived.Laws.Externs
import Derived.RegionTactic
import Derived.BigRegion
import Derived.Laws.CopyRow
import Derived.Lib.Bytealg
import Derived.Shelf.Strconv.Itoa3
import Derived.Lib.AppendIntMem
import Derived.Shelf.Strings.Search2
import Derived.Shelf.Strconv.AtoiAll
import Derived.Shelf.Strings.Replace
import Derived.Shelf.Strings.Repeat
import Derived.Shelf.Strings.Cut
import Derived.Shelf.Strings.Split
import Derived.Shelf.Strings.Prefix
import Derived.Shelf.Strings.OnBuilder
import Derived.Shelf.Vars
import Derived.Lib.SmallJoins
import Derived.Lib.SplitLaws
import Derived.Stop.LaidErr
import Derived.KernelRfl
set_option linter.all false
set_option linter.unusedVariables false
set_option linter.unusedSimpArgs false
set_option linter.unnecessarySimpa false
section
/- strings.Builder's methods that look at addresses or capacities: each leaves just this world behind. -/
namespace Go.Proofs.Tryd.Ai
open Go Go.AI Go.RowKit Go.Proofs

set_option maxHeartbeats 1000000 in
set_option maxRecDepth 100000 in
theorem copyCheck_used (b : Nat) (w : World) (h0 : w.cell? ⟨b, 0, none⟩ = some (.pointer (some ⟨b, 0, none⟩))) :
    Calls Tryd.prog 38 #[.pointer (some ⟨b, 0, none⟩)] w fun e w' => e = .returned (.tuple #[]) ∧ w' = w := by
  obtain ⟨j, hj, _⟩ : ∃ j, Tryd.prog.info? 56 = some j ∧ j.size = 2 := Option.map_eq_some_iff.1 (by kernel_rfl)
  go_enter Tryd.func38, Tryd.ntmps38
  go_wp2
  rw [Lib.run_neq_ptr_same w _ (te := 56) (by kernel_rfl) hj]
  go_wp2
  go_end0
  exact ⟨rfl, rfl⟩

set_option maxHeartbeats 1000000 in
set_option maxRecDepth 100000 in
theorem copyCheck_fresh (b : Nat) (w : World) (h0 : w.cell? ⟨b, 0, none⟩ = some (.pointer none)) (hsh : w.shape? b = some (56, 2)) (hfz : w.frozen? ⟨b, 0, none⟩ = false) :
    Calls Tryd.prog 38 #[.pointer (some ⟨b, 0, none⟩)] w fun e w' => e = .returned (.tuple #[]) ∧ w' = w.setCell ⟨b, 0, none⟩ (.pointer (some ⟨b, 0, none⟩)) := by
  obtain ⟨j, hj, hjs⟩ : ∃ j, Tryd.prog.info? 56 = some j ∧ j.size = 2 := Option.map_eq_some_iff.1 (by kernel_rfl)
  go_enter Tryd.func38, Tryd.ntmps38
  go_wp2
  rw [Lib.run_to_unsafe (t := 56) w ⟨b, 0, none⟩ (by kernel_rfl) (by kernel_rfl) hj (by rw [hjs]; decide) hsh (Nat.zero_lt_succ 1)]
  simp only [Result.andThen]
  rw [Oper.upon_value]
  go_wp2
  rw [run_callFunc_extern Tryd.func55 (by kernel_rfl) (by kernel_rfl) (by kernel_rfl) (e := Extern.AbiNoEscape.same) (by kernel_rfl)]
  rw [Lib.run_noEscape]
  simp only [Result.andThen]
  rw [Oper.upon_value]
  go_wp2
  rw [Lib.run_from_unsafe (u := 56) w ⟨b, 0, none⟩ (by kernel_rfl) (by kernel_rfl) hj hsh (by kernel_rfl)]
  simp only [Result.andThen]
  rw [Oper.upon_value]
  go_wp2
  go_end0
  exact ⟨rfl, rfl⟩

def SB : TypeId := 56
def U8 : TypeId := 5

set_option maxHeartbeats 2000000 in
set_option maxRecDepth 1000000 in
theorem string_some (b g cap n : Nat) (p : Value) (cur : Array Value) (l : List UInt8) (w : World) (h0 : l ≠ []) (hn : l.length = n) (hbk : Blk w b #[p, .slice (some ⟨g, 0, none⟩) n cap] SB)
    (hg : Blk w g cur U8) (hnc : n ≤ cap) (hcm : cap ≤ maxLen) (hcs : cur.size = cap) (hx : ∀ (j : Nat) (x : UInt8), l[j]? = some x → cur[j]? = some (.int .u8 x.toNat)) :
    Calls Tryd.prog 25 #[.pointer (some ⟨b, 0, none⟩)] w fun e w' => e = .returned (.string ⟨l.toArray⟩) ∧ w' = w.drew.freeze ⟨g, 0, none⟩ n := by
  obtain ⟨fbk, hbk, okbk⟩ := hbk
  obtain ⟨fg, hg, okg⟩ := hg
  subst hn
  have hl0 : l.length ≠ 0 := by simpa using h0
  have c1 : w.drew.cell? ⟨b, 1, none⟩ = some (.slice (some ⟨g, 0, none⟩) l.length cap) := by
    have : w.drew.heap[b]? = some (.cells #[p, .slice (some ⟨g, 0, none⟩) l.length cap] SB fbk) := hbk
    rw [Lib.cell_of_heap this]; rfl
  have hSD : (Builtin.unsafeSliceData_ #[38] 68 #[.slice (some ⟨g, 0, none⟩) l.length cap]).run Tryd.prog w.drew = .ok (.pointer (some ⟨g, 0, none⟩)) w.drew :=
    Lib.run_unsafeSliceData_row _ _ _ _ _ _ (by omega)
  have hUS : (Builtin.unsafeString_ #[68, 3] 9 #[.pointer (some ⟨g, 0, none⟩), .int .i64 l.length]).run Tryd.prog w.drew = .ok (.string ⟨l.toArray⟩) (w.drew.freeze ⟨g, 0, none⟩ l.length) := by
    refine Lib.run_unsafeString_row w.drew 68 3 9 5 (by kernel_rfl) (by kernel_rfl) g cur.size (by have hg' : w.drew.heap[g]? = some (.cells cur U8 fg) := hg; simp [World.shape?, hg', U8]) l h0 (by omega) (by unfold maxLen at hcm; omega) ?_
    intro j x hj
    have := hx j x hj
    have hg' : w.drew.heap[g]? = some (.cells cur U8 fg) := hg
    rw [show (⟨g, 0, none⟩ : Addr).add j = ⟨g, j, none⟩ from by unfold Addr.add; split <;> simp_all, Lib.cell_of_heap hg']; exact this
  go_enter Tryd.func25, Tryd.ntmps25
  go_wp2
  go_region
  all_goals (go_wp2; go_ret; exact ⟨rfl, rfl⟩)

set_option maxHeartbeats 2000000 in
set_option maxRecDepth 1000000 in
theorem string_nil (b : Nat) (p : Value) (w : World) (hbk : Blk w b #[p, .slice none 0 0] SB) :
    Calls Tryd.prog 25 #[.pointer (some ⟨b, 0, none⟩)] w fun e w' => e = .returned (.string ⟨#[]⟩) ∧ w' = w.drew := by
  obtain ⟨fbk, hbk, okbk⟩ := hbk
  have hUS : ∀ (W : World) (q : Option Addr), (Builtin.unsafeString_ #[68, 3] 9 #[.pointer q, .int .i64 0]).run Tryd.prog W = .ok (.string .empty) W := fun W q => Lib.run_unsafeString_none W _ _ _ q
  have c1 : w.drew.cell? ⟨b, 1, none⟩ = some (.slice none 0 0) := by
    have : w.drew.heap[b]? = some (.cells #[p, .slice none 0 0] SB fbk) := hbk
    rw [Lib.cell_of_heap this]; rfl
  have hSD : ∀ W : World, (Builtin.unsafeSliceData_ #[38] 68 #[.slice none 0 0]).run Tryd.prog W = .ok (.pointer none) W := fun W => rfl
  go_enter Tryd.func25, Tryd.ntmps25
  go_wp2
  go_region
  all_goals (go_wp2; go_ret; exact ⟨rfl, rfl⟩)

set_option maxHeartbeats 2000000 in
set_option maxRecDepth 1000000 in
theorem string_room (b g cap : Nat) (p : Value) (w : World) (hc0 : cap ≠ 0) (hbk : Blk w b #[p, .slice (some ⟨g, 0, none⟩) 0 cap] SB) :
    Calls Tryd.prog 25 #[.pointer (some ⟨b, 0, none⟩)] w fun e w' => e = .returned (.string ⟨#[]⟩) ∧ w' = w.drew := by
  obtain ⟨fbk, hbk, okbk⟩ := hbk
  have hUS : ∀ (W : World) (q : Option Addr), (Builtin.unsafeString_ #[68, 3] 9 #[.pointer q, .int .i64 0]).run Tryd.prog W = .ok (.string .empty) W := fun W q => Lib.run_unsafeString_none W _ _ _ q
  have c1 : w.drew.cell? ⟨b, 1, none⟩ = some (.slice (some ⟨g, 0, none⟩) 0 cap) := by
    have : w.drew.heap[b]? = some (.cells #[p, .slice (some ⟨g, 0, none⟩) 0 cap] SB fbk) := hbk
    rw [Lib.cell_of_heap this]; rfl
  have hSD : (Builtin.unsafeSliceData_ #[38] 68 #[.slice (some ⟨g, 0, none⟩) 0 cap]).run Tryd.prog w.drew = .ok (.pointer (some ⟨g, 0, none⟩)) w.drew :=
    Lib.run_unsafeSliceData_row _ _ _ _ _ _ hc0
  clear hc0
  go_enter Tryd.func25, Tryd.ntmps25
  go_wp2
  go_region
  all_goals (go_wp2; go_ret; exact ⟨rfl, rfl⟩)

set_option maxHeartbeats 2000000 in
set_option maxRecDepth 1000000 in
theorem string_noroom (b g : Nat) (p : Value) (cur : Array Value) (w : World) (hbk : Blk w b #[p, .slice (some ⟨g, 0, none⟩) 0 0] SB) (hg : Blk w g cur U8) :
    Calls Tryd.prog 25 #[.pointer (some ⟨b, 0, none⟩)] w fun e w' => e = .returned (.string ⟨#[]⟩) ∧ w' = (w.alloc (.view ⟨g, 0, none⟩ U8)).drew := by
  obtain ⟨fbk, hbk, okbk⟩ := hbk
  obtain ⟨fg, hg, okg⟩ := hg
  have hUS : ∀ (W : World) (q : Option Addr), (Builtin.unsafeString_ #[68, 3] 9 #[.pointer q, .int .i64 0]).run Tryd.prog W = .ok (.string .empty) W := fun W q => Lib.run_unsafeString_none W _ _ _ q
  have hlt : b < w.heap.size := by
    rcases Nat.lt_or_ge b w.heap.size with h' | h'
    · exact h'
    · simp [Array.getElem?_eq_none h'] at hbk
  have c1 : w.drew.cell? ⟨b, 1, none⟩ = some (.slice (some ⟨g, 0, none⟩) 0 0) := by
    have : w.drew.heap[b]? = some (.cells #[p, .slice (some ⟨g, 0, none⟩) 0 0] SB fbk) := hbk
    rw [Lib.cell_of_heap this]; rfl
  have hSD : (Builtin.unsafeSliceData_ #[38] 68 #[.slice (some ⟨g, 0, none⟩) 0 0]).run Tryd.prog w.drew = .ok (.pointer (some ⟨w.drew.heap.size, 0, none⟩)) (w.drew.alloc (.view ⟨g, 0, none⟩ 5)) :=
    Lib.run_unsafeSliceData_zero w.drew _ _ 5 (by kernel_rfl) ⟨g, 0, none⟩ 0 (5, cur.size) (by have hg' : w.drew.heap[g]? = some (.cells cur U8 fg) := hg; simp [World.shape?, hg', U8])
  have c2 : (w.drew.alloc (.view ⟨g, 0, none⟩ 5)).cell? ⟨b, 1, none⟩ = some (.slice (some ⟨g, 0, none⟩) 0 0) := by
    have : (w.drew.alloc (.view ⟨g, 0, none⟩ 5)).heap[b]? = _ := (Lib.alloc_old w.drew _ b hlt).trans hbk
    rw [Lib.cell_of_heap this]; rfl
  have c3 : (w.alloc (.view ⟨g, 0, none⟩ 5)).drew.cell? ⟨b, 1, none⟩ = some (.slice (some ⟨g, 0, none⟩) 0 0) := c2
  have c0 : w.cell? ⟨b, 1, none⟩ = some (.slice (some ⟨g, 0, none⟩) 0 0) := c1
  clear hlt
  go_enter Tryd.func25, Tryd.ntmps25
  go_wp2
  go_region
  all_goals (go_wp2; go_ret; exact ⟨rfl, rfl⟩)

set_option maxHeartbeats 2000000 in
set_option maxRecDepth 1000000 in
theorem grow_fresh (b n : Nat) (w : World) (hbk : Blk w b #[.pointer (some ⟨b, 0, none⟩), .slice none 0 0] SB) (hn : n ≤ 281474976710656) :
    Calls Tryd.prog 54 #[.pointer (some ⟨b, 0, none⟩), .int .i64 n] w fun e w' => e = .returned (.tuple #[]) ∧ ∃ cs : Array Value, (n ≤ maxLen → cs.size ≤ maxLen) ∧ w' = ((w.alloc (.cells cs U8)).setCell ⟨b, 1, none⟩ (.slice (some ⟨w.heap.size, 0, none⟩) 0 cs.size)).drew.drew.drew := by
  obtain ⟨fbk, hbk, okbk⟩ := hbk
  obtain ⟨cs, hrun, hle, hmax⟩ := Lib.run_makeNoZero (P := Tryd.prog) w.drew #[3] 38 5 (by kernel_rfl) n hn
  have hw : IntKind.i64.wrap (IntKind.i64.wrap 0 + (n : Int)) = n := by
    rw [IntKind.wrap_i64, IntKind.wrap_i64]
    omega
  have hcall : (callFunc 77 #[.int .i64 (IntKind.i64.wrap (IntKind.i64.wrap 0 + (n : Int)))]).run Tryd.prog w.drew = .ok (.value (.slice (some ⟨w.drew.heap.size, 0, none⟩) n cs.size)) (w.drew.drew.drew.alloc (.cells cs U8)) := by
    rw [hw, run_callFunc_extern Tryd.func77 (by kernel_rfl) (by kernel_rfl) (by kernel_rfl) (e := Extern.BytealgMakeNoZero.makeNoZero #[3] #[38]) (by kernel_rfl), hrun]
    rfl
  have c1 : w.drew.cell? ⟨b, 1, none⟩ = some (.slice none 0 0) := by
    have : w.drew.heap[b]? = _ := hbk
    rw [Lib.cell_of_heap this]; rfl
  have hlt : b < w.heap.size := by
    rcases Nat.lt_or_ge b w.heap.size with h' | h'
    · exact h'
    · simp [Array.getElem?_eq_none h'] at hbk
  have c2 : (w.alloc (.cells cs U8)).cell? ⟨b, 1, none⟩ = some (.slice none 0 0) := by
    have : (w.alloc (.cells cs U8)).heap[b]? = _ := (Lib.alloc_old w _ b hlt).trans hbk
    rw [Lib.cell_of_heap this]; rfl
  have f2 : (w.alloc (.cells cs U8)).frozen? ⟨b, 1, none⟩ = false := (show Blk _ b _ SB from ⟨fbk, (Lib.alloc_old w _ b hlt).trans hbk, okbk⟩).frozen (by simp)
  have hcopy : ∀ W : World, (Builtin.copy_ #[38, 38] 3 #[.slice (some ⟨w.heap.size, 0, none⟩) 0 cs.size, .slice none 0 0]).run Tryd.prog W = .ok (goInt 0) W :=
    fun W => run_copy_none W 38 38 3 5 _ _ 0 cs.size 0 0 (by kernel_rfl) (by kernel_rfl) rfl
  have hfin : ∃ cs' : Array Value, (n ≤ maxLen → cs'.size ≤ maxLen) ∧ ((w.alloc (.cells cs U8)).setCell ⟨b, 1, none⟩ (.slice (some ⟨w.heap.size, 0, none⟩) 0 cs.size)).drew.drew.drew = ((w.alloc (.cells cs' U8)).setCell ⟨b, 1, none⟩ (.slice (some ⟨w.heap.size, 0, none⟩) 0 cs'.size)).drew.drew.drew := ⟨cs, hmax, rfl⟩
  clear hw hmax hlt
  unfold U8 at *
  go_enter Tryd.func54, Tryd.ntmps54
  go_wp2
  go_region
  all_goals (go_wp2; go_end0; exact ⟨rfl, hfin⟩)
set_option maxHeartbeats 2000000 in
set_option maxRecDepth 1000000 in
theorem Grow_fresh (b n : Nat) (w : World) (hbk : Blk w b #[.pointer none, .slice none 0 0] SB) (hn : n ≤ 281474976710656) :
    Calls Tryd.prog 36 #[.pointer (some ⟨b, 0, none⟩), .int .i64 n] w fun e w' => e = .returned (.tuple #[]) ∧
      ((∃ cs : Array Value, (n ≤ maxLen → cs.size ≤ maxLen) ∧ w' = (((w.setCell ⟨b, 0, none⟩ (.pointer (some ⟨b, 0, none⟩))).alloc (.cells cs U8)).setCell ⟨b, 1, none⟩ (.slice (some ⟨w.heap.size, 0, none⟩) 0 cs.size)).drew.drew.drew.drew) ∨
       w' = (w.setCell ⟨b, 0, none⟩ (.pointer (some ⟨b, 0, none⟩))).drew) := by
  obtain ⟨fbk, hbk, okbk⟩ := hbk
  have hbk1 : (w.setCell ⟨b, 0, none⟩ (.pointer (some ⟨b, 0, none⟩))).heap[b]? = some (.cells #[.pointer (some ⟨b, 0, none⟩), .slice none 0 0] SB fbk) := by
    simp [World.setCell, Array.getElem?_modify, hbk]
  have c1 : (w.setCell ⟨b, 0, none⟩ (.pointer (some ⟨b, 0, none⟩))).cell? ⟨b, 1, none⟩ = some (.slice none 0 0) := by rw [Lib.cell_of_heap hbk1]; rfl
  have c1' : (w.setCell ⟨b, 0, none⟩ (.pointer (some ⟨b, 0, none⟩))).drew.cell? ⟨b, 1, none⟩ = some (.slice none 0 0) := c1
  go_enter Tryd.func36, Tryd.ntmps36
  go_wp2_with (go_at_call 38; refine (copyCheck_fresh b w (by rw [Lib.cell_of_heap hbk]; rfl) (by simp [World.shape?, hbk, SB]) ((show Blk w b _ SB from ⟨fbk, hbk, okbk⟩).frozen (by simp))).mono ?_; rintro e w' ⟨rfl, rfl⟩)
  go_region
  all_goals go_wp2_with (go_at_call 54; refine (grow_fresh b n (w.setCell ⟨b, 0, none⟩ (.pointer (some ⟨b, 0, none⟩))).drew ⟨fbk, hbk1, okbk⟩ hn).mono ?_; rintro e w' ⟨rfl, cs, h1, rfl⟩)
  all_goals first
    | (go_end0; exact ⟨rfl, .inl ⟨cs, h1, by first | rfl | simp [World.setCell_drew]⟩⟩)
    | (go_end0; exact ⟨rfl, .inr rfl⟩)
end Go.Proofs.Tryd.Ai
end
section
/- The table's entries for strings.Builder. -/
namespace Go.Proofs.Tryd.Ai
open Go Go.AI Go.RowKit Go.Proofs
set_option linter.unusedVariables false

def copyCheckT : List AV → List (List AV) → Option (AV × List (List AV))
  | [.gp b 0 (some (t, 2))], s => if t = SB then (match s[b]? with
      | some [.nilp, u] => some (.tup [], s.set b [.gp b 0 (some (SB, 2)), u])
      | some [.gp b' 0 _, u] => if b' = b then some (.tup [], s) else none
      | _ => none) else none
  | _, _ => none

theorem one_arg {B : Nat} {T0 : Nat → Prop} {μ0 : Gh} {w0 : World} {N : Nat} {μ : Gh} {lx : Nat → Option Nat} {w : World} {vs : Array Value} {x : AV} {s : List (List AV)} (hsz : vs.size = 1) : ∃ v, vs = #[v] ∧ vs.getD 0 undef = v := by
  obtain ⟨l⟩ := vs
  match l, hsz with
  | [v], _ => exact ⟨v, rfl, rfl⟩

theorem copyCheck_ok {B : Nat} {W0 : World} {xs : List AV} {s : List (List AV)} {r : AV} {s' : List (List AV)} (e : copyCheckT xs s = some (r, s')) : ACalls Tryd.prog B W0 38 xs s r s' := by
  unfold copyCheckT at e
  split at e
  · rename_i b tt
    split at e
    · rename_i ht
      subst ht
      intro T μ w vs hsz hW hs
      split at e
      · rename_i u hb
        simp only [Option.some.injEq, Prod.mk.injEq] at e
        obtain ⟨rfl, rfl⟩ := e
        obtain ⟨blk, cur, ty, h1, h2, h3, h4, h5, h6, h7⟩ := hs.gp_open (i := 0) (b := b) (off := 0) (sh := some (SB, 2)) (by simp [params, look]) hb (by simp)
        have h8 := h7 _ rfl
        simp only [Prod.mk.injEq] at h8
        obtain ⟨rfl, h8⟩ := h8
        obtain ⟨v, rfl, hv⟩ := one_arg (B := B) (T0 := T) (μ0 := μ) (w0 := w) (N := 1) (μ := μ) (lx := fun _ => none) (w := w) (x := .nilp) (s := []) hsz
        have hv0 : v = .pointer (some ⟨blk, 0, none⟩) := h1
        subst hv0
        have hc0 : cur[0]? = some (.pointer none) := by
          have := (h6 0 .nilp rfl).2.1
          have hq : cur[0]? = some (cur.getD 0 undef) := by simp [Array.getD_eq_getD_getElem?, h8]
          rw [hq]; congr 1
          generalize cur.getD 0 undef = z at this
          cases this; rfl
        refine (copyCheck_fresh blk w (by rw [h3.cell]; exact hc0) (by simp [h3.shape, h8, SB]) (h3.frozen (by omega))).mono ?_
        rintro e w' ⟨rfl, rfl⟩
        have h9 := hs.setGlobCell (j := 0) (c := .gp b 0 (some (SB, 2))) (v := .pointer (some ⟨blk, 0, none⟩)) hb h2 h3 (by simp) (.mk' ⟨.gp _ _ _ _ h2 (fun q e => by injection e with e; subst e; simp [h3.shape, h8]), trivial⟩ fun j => by cases j <;> rfl) rfl
        exact ⟨_, _, rfl, h9.unit⟩
      · rename_i b' sh u hb
        split at e
        · rename_i hbb
          obtain rfl : b = b' := hbb.symm
          simp only [Option.some.injEq, Prod.mk.injEq] at e
          obtain ⟨rfl, rfl⟩ := e
          obtain ⟨blk, cur, ty, h1, h2, h3, h4, h5, h6, h7⟩ := hs.gp_open (i := 0) (b := b) (off := 0) (sh := some (SB, 2)) (by simp [params, look]) hb (by simp)
          have h8 := h7 _ rfl
          simp only [Prod.mk.injEq] at h8
          obtain ⟨rfl, h8⟩ := h8
          obtain ⟨v, rfl, hv⟩ := one_arg (B := B) (T0 := T) (μ0 := μ) (w0 := w) (N := 1) (μ := μ) (lx := fun _ => none) (w := w) (x := .nilp) (s := []) hsz
          have hv0 : v = .pointer (some ⟨blk, 0, none⟩) := h1
          subst hv0
          have hc0 : cur[0]? = some (.pointer (some ⟨blk, 0, none⟩)) := by
            have := (h6 0 _ rfl).2.1
            have hq : cur[0]? = some (cur.getD 0 undef) := by simp [Array.getD_eq_getD_getElem?, h8]
            rw [hq]; congr 1
            generalize cur.getD 0 undef = z at this
            cases this with
            | gp _ _ blk' _ hq' _ => rw [h2] at hq'; injection hq' with hq'; rw [hq']
          refine (copyCheck_used blk w (by rw [h3.cell]; exact hc0)).mono ?_
          rintro e w' ⟨rfl, rfl⟩
          exact ⟨_, _, rfl, hs.unit⟩
        · cases e
      · cases e
    · cases e
  · cases e

theorem bytesOf_u8 (l : List UInt8) : bytesOf (l.map .u8) = some l := by
  induction l with
  | nil => rfl
  | cons b r ih => simp [bytesOf, AV.u8, ih, bnd]

noncomputable def stringT : List AV → List (List AV) → Option (AV × List (List AV))
  | [.gp b 0 (some (t, 2))], s => if t = SB then (match s[b]? with
      | some [u, .sl (.ex ty 1) xs] => if ty = U8 then bnd (bytesOf xs) fun l => need (xs = l.map .u8) (some (.str l, s.set b [u, .sl .sh xs])) else none
      | some [u, .sl .nil []] => some (.str [], s)
      | _ => none) else none
  | _, _ => none

theorem string_ok {B : Nat} {W0 : World} {xs : List AV} {s : List (List AV)} {r : AV} {s' : List (List AV)} (e : stringT xs s = some (r, s')) : ACalls Tryd.prog B W0 25 xs s r s' := by
  unfold stringT at e
  split at e
  · rename_i b tt
    split at e
    · rename_i ht
      subst ht
      intro T μ w vs hsz hW hs
      split at e
      · rename_i u ty2 xs hb
        split at e
        rotate_left
        · cases e
        rename_i hty
        subst hty
        obtain ⟨l, hl, e⟩ := bnd_eq e
        obtain ⟨hxs, e⟩ := need_eq e
        simp only [Option.some.injEq, Prod.mk.injEq] at e
        obtain ⟨rfl, rfl⟩ := e
        obtain ⟨blk, cur, ty, h1, h2, h3, h4, h5, h6, h7⟩ := hs.gp_open (i := 0) (b := b) (off := 0) (sh := some (SB, 2)) (by simp [params, look]) hb (by simp)
        have h8 := h7 _ rfl
        simp only [Prod.mk.injEq] at h8
        obtain ⟨rfl, h8⟩ := h8
        obtain ⟨v, rfl, hv⟩ := one_arg (B := B) (T0 := T) (μ0 := μ) (w0 := w) (N := 1) (μ := μ) (lx := fun _ => none) (w := w) (x := .nilp) (s := []) hsz
        have hv0 : v = .pointer (some ⟨blk, 0, none⟩) := h1
        subst hv0
        obtain ⟨p, q, rfl⟩ : ∃ p q, cur = #[p, q] := by
          obtain ⟨l⟩ := cur
          match l, h8 with
          | [p, q], _ => exact ⟨p, q, rfl⟩
        have k1 := h6 1 _ rfl
        have kr : Rep B μ w q (.sl (.ex U8 1) xs) := k1.2.1
        have kt : Tk1 B μ w q (.sl (.ex U8 1) xs) := k1.2.2
        have hq1 : hs = hs := rfl
        have hqc := hs.quietCell hb (j := 1) rfl
        have hown : own ⟨#[.pointer (some ⟨blk, 0, none⟩)], []⟩ (fun _ => none) μ w ⟨params 0 [.gp b 0 (some (SB, 2))], [], s⟩ (.gc b 1) = exBlk q (.sl (.ex U8 1) xs) := by
          simp [own, ownB, hb, h2, h3.cell]
        rcases kt with hn | ⟨g, cap, cur, rfl, hB, hg, c1, c2, c3, c4, c5, c6⟩
        · subst hn
          have hx : xs = [] := by cases kr <;> rfl
          subst hx
          injection hl with hl; subst hl
          refine (string_nil blk p w h3).mono ?_
          rintro e w' ⟨rfl, rfl⟩
          exact ⟨_, _, rfl, hqc.drew.1.text []⟩
        · have hfree : ∀ l, own ⟨#[.pointer (some ⟨blk, 0, none⟩)], []⟩ (fun _ => none) μ w ⟨params 0 [.gp b 0 (some (SB, 2))], [], s.set b [u, .sl .sh xs]⟩ l ≠ some g := by
            intro l e
            have hle : Le ⟨params 0 [.gp b 0 (some (SB, 2))], [], s.set b [u, .sl .sh xs]⟩ ⟨params 0 [.gp b 0 (some (SB, 2))], [], s⟩ := by
              have hb' : b < s.length := (List.getElem?_eq_some_iff.1 hb).1
              refine ⟨fun i v e => ⟨v, e, .inl rfl⟩, fun d cs e => ⟨cs, e, CLe.refl _⟩, fun b' cs' e => ?_, by simp, id⟩
              simp only [List.getElem?_set] at e
              by_cases q : b = b'
              · subst q
                simp [hb'] at e; subst e
                refine ⟨_, hb, rfl, fun j' c' e => ?_⟩
                match j', e with
                | 0, e => exact ⟨_, rfl, .inl (by simpa using e.symm)⟩
                | 1, e => exact ⟨_, rfl, .inr (by simpa [dem1] using e.symm)⟩
              · rw [if_neg q] at e; exact ⟨cs', e, CLe.refl _⟩
            have e1 := own_le hle e
            have := hs.inj l (.gc b 1) g e1 (by rw [hown]; rfl)
            subst this
            have hb' : b < s.length := (List.getElem?_eq_some_iff.1 hb).1
            simp [own, ownB, List.getElem?_set, hb', h2, h3.cell, exBlk] at e
          have hr := hs.rng (.gc b 1) g (by rw [hown]; rfl)
          have hqc' : Sim B T μ w 1 μ (fun _ => none) ⟨#[.pointer (some ⟨blk, 0, none⟩)], []⟩ w ⟨params 0 [.gp b 0 (some (SB, 2))], [], s.set b [u, .sl .sh xs]⟩ := hqc
          by_cases hx : xs = []
          · subst hx
            injection hl with hl; subst hl
            by_cases hc0 : cap = 0
            · subst hc0
              refine (string_noroom blk g p cur w h3 hg).mono ?_
              rintro e w' ⟨rfl, rfl⟩
              exact ⟨_, _, rfl, (hqc'.alloc _).drew.1.text []⟩
            · refine (string_room blk g cap p w hc0 h3).mono ?_
              rintro e w' ⟨rfl, rfl⟩
              exact ⟨_, _, rfl, hqc'.drew.1.text []⟩
          · have hl0 : l ≠ [] := fun e => by subst e; exact hx hxs
            have hll : l.length = xs.length := by rw [hxs]; simp
            obtain ⟨ad, cap', he, _, _, _, k4⟩ := sl_inv kr
            obtain ⟨b', off', sz', f, had, hsz', hall', hcell, hrep⟩ := k4 hx
            injection he with he1 he2 he3
            rw [had] at he1
            injection he1 with he1
            injection he1 with e1 e2
            subst e1; subst e2
            have hsz1 : sz' = 1 := by
              obtain ⟨x0, hx0⟩ := List.exists_mem_of_ne_nil xs hx
              rw [← (hall' x0 hx0).1]; exact (c5 x0 hx0).1
            subst hsz1
            refine (string_some blk g cap xs.length p cur l w hl0 hll h3 hg c1 c2 (by omega) (fun j x hj => ?_)).mono ?_
            · have hjl : j < l.length := (List.getElem?_eq_some_iff.1 hj).1
              have hxj : xs[j]? = some (.u8 x) := by rw [hxs]; simp [hj]
              have h10 := (hcell j (by omega)).1
              have h11 := hrep j 0 (.u8 x) (by rw [hxj]; rfl)
              rw [Nat.zero_add, cell_box hg] at h10
              rw [h10]; congr 1
              simp only [Nat.mul_one, Nat.add_zero] at h11
              generalize f j = z at h11
              cases h11; rfl
            · rintro e w' ⟨rfl, rfl⟩
              have h12 := hqc'.drew
              exact ⟨_, _, rfl, (h12.1.freeze (g := g) (n := xs.length) (fun l e => hfree l (by rw [← h12.2]; exact e)) hB hr.2.2).text l⟩
      · rename_i u hb
        simp only [Option.some.injEq, Prod.mk.injEq] at e
        obtain ⟨rfl, rfl⟩ := e
        obtain ⟨blk, cur, ty, h1, h2, h3, h4, h5, h6, h7⟩ := hs.gp_open (i := 0) (b := b) (off := 0) (sh := some (SB, 2)) (by simp [params, look]) hb (by simp)
        have h8 := h7 _ rfl
        simp only [Prod.mk.injEq] at h8
        obtain ⟨rfl, h8⟩ := h8
        obtain ⟨v, rfl, hv⟩ := one_arg (B := B) (T0 := T) (μ0 := μ) (w0 := w) (N := 1) (μ := μ) (lx := fun _ => none) (w := w) (x := .nilp) (s := []) hsz
        have hv0 : v = .pointer (some ⟨blk, 0, none⟩) := h1
        subst hv0
        obtain ⟨p, q, rfl⟩ : ∃ p q, cur = #[p, q] := by
          obtain ⟨l⟩ := cur
          match l, h8 with
          | [p, q], _ => exact ⟨p, q, rfl⟩
        have kr : Rep B μ w q (.sl .nil []) := (h6 1 _ rfl).2.1
        obtain ⟨rfl, _⟩ := kr.nil_val
        refine (string_nil blk p w h3).mono ?_
        rintro e w' ⟨rfl, rfl⟩
        exact ⟨_, _, rfl, hs.drew.1.text []⟩
      · cases e
    · cases e
  · cases e

def growT : List AV → List (List AV) → Option (AV × List (List AV))
  | [.gp b 0 (some (t, 2)), .int .i64 n], s => if t = SB ∧ 0 ≤ n ∧ n ≤ 140737488351232 then (match s[b]? with
      | some [.nilp, .sl .nil []] => some (.tup [], s.set b [.gp b 0 (some (SB, 2)), .sl (.ex U8 1) []])
      | _ => none) else none
  | _, _ => none

theorem grow_ok {B : Nat} {W0 : World} {xs : List AV} {s : List (List AV)} {r : AV} {s' : List (List AV)} (e : growT xs s = some (r, s')) : ACalls Tryd.prog B W0 36 xs s r s' := by
  unfold growT at e
  split at e
  · rename_i b tt n
    split at e
    · rename_i ht
      obtain ⟨rfl, hn0, hn1⟩ := ht
      obtain ⟨m, rfl⟩ := Int.eq_ofNat_of_zero_le hn0
      intro T μ w vs hsz hW hs
      split at e
      · rename_i hb
        simp only [Option.some.injEq, Prod.mk.injEq] at e
        obtain ⟨rfl, rfl⟩ := e
        obtain ⟨blk, cur, ty, h1, h2, h3, h4, h5, h6, h7⟩ := hs.gp_open (i := 0) (b := b) (off := 0) (sh := some (SB, 2)) (by simp [params, look]) hb (by simp)
        have h8 := h7 _ rfl
        simp only [Prod.mk.injEq] at h8
        obtain ⟨rfl, h8⟩ := h8
        have hq1 : vs.getD 1 undef = .int .i64 m := by
          have := (hs.tmp 1 (.int .i64 m) (by simp [params, look])).1
          generalize hz : vs.getD 1 undef = z at this
          try simp only [hz] at this
          cases this; rfl
        obtain ⟨v0, v1, rfl⟩ : ∃ v0 v1, vs = #[v0, v1] := by
          obtain ⟨l⟩ := vs
          match l, hsz with
          | [p, q], _ => exact ⟨p, q, rfl⟩
        have hv0 : v0 = .pointer (some ⟨blk, 0, none⟩) := h1
        have hv1 : v1 = .int .i64 m := hq1
        subst hv0; subst hv1
        obtain ⟨p, q, rfl⟩ : ∃ p q, cur = #[p, q] := by
          obtain ⟨l⟩ := cur
          match l, h8 with
          | [p, q], _ => exact ⟨p, q, rfl⟩
        have kp : Rep B μ w p .nilp := (h6 0 _ rfl).2.1
        have kq : Rep B μ w q (.sl .nil []) := (h6 1 _ rfl).2.1
        obtain ⟨rfl, _⟩ := kq.nil_val
        obtain rfl : p = .pointer none := by cases kp; rfl
        have h9 := hs.setGlobCell (j := 0) (c := .gp b 0 (some (SB, 2))) (v := .pointer (some ⟨blk, 0, none⟩)) hb h2 h3 (by simp) (.mk' ⟨.gp _ _ _ _ h2 (fun q e => by injection e with e; subst e; simp [h3.shape]), trivial⟩ fun j => by cases j <;> rfl) rfl
        have hbl : b < s.length := (List.getElem?_eq_some_iff.1 hb).1
        have hs1 : (s.set b ([AV.nilp, .sl .nil []].set 0 (.gp b 0 (some (SB, 2)))))[b]? = some [.gp b 0 (some (SB, 2)), .sl .nil []] := by simp [hbl]
        have hh1 : Blk (w.setCell ⟨blk, 0, none⟩ (.pointer (some ⟨blk, 0, none⟩))) blk #[.pointer (some ⟨blk, 0, none⟩), .slice none 0 0] SB := by
          obtain ⟨fz, h3, ok3⟩ := h3; exact ⟨fz, by simp [World.setCell, Array.getElem?_modify, h3], ok3⟩
        refine (Grow_fresh blk m w h3 (by omega)).mono ?_
        rintro e w' ⟨rfl, ⟨cs, hcs, rfl⟩ | rfl⟩
        · obtain ⟨f1, f2⟩ := h9.fresh (vs := cs) (ty := U8) (els := []) (sz := 1) (cap := cs.size) (by omega) (by simp) (hcs (by unfold maxLen; omega)) (by simp) (fun x hx => by cases hx) (fun i j c hc => by simp at hc)
          have hh2 : Blk ((w.setCell ⟨blk, 0, none⟩ (.pointer (some ⟨blk, 0, none⟩))).alloc (.cells cs U8)) blk #[.pointer (some ⟨blk, 0, none⟩), .slice none 0 0] SB := hh1.of <|
            (Below.heap_alloc _ _ _ hh1.lt)
          have f3 := f1.setGlobCell (j := 1) hs1 h2 hh2 (by simp) f2 rfl
          have hset : (s.set b ([AV.nilp, .sl .nil []].set 0 (.gp b 0 (some (SB, 2))))).set b ([.gp b 0 (some (SB, 2)), AV.sl .nil []].set 1 (.sl (.ex U8 1) [])) = s.set b [.gp b 0 (some (SB, 2)), .sl (.ex U8 1) []] := by simp
          have f4 := f3.drew.1.drew.1.drew.1.drew.1
          simp only [hset] at f4
          have hsize : (w.setCell ⟨blk, 0, none⟩ (.pointer (some ⟨blk, 0, none⟩))).heap.size = w.heap.size := by simp [World.setCell]
          simp only [hsize] at f4
          exact ⟨_, _, rfl, f4.unit⟩
        · have f3 := h9.setGlobCell (j := 1) (v := .slice none 0 0) (c := .sl (.ex U8 1) []) hs1 h2 hh1 (by simp) (.mk' ⟨.slnil _, .inl rfl⟩ fun j => by cases j <;> rfl) rfl
          have hset : (s.set b ([AV.nilp, .sl .nil []].set 0 (.gp b 0 (some (SB, 2))))).set b ([.gp b 0 (some (SB, 2)), AV.sl .nil []].set 1 (.sl (.ex U8 1) [])) = s.set b [.gp b 0 (some (SB, 2)), .sl (.ex U8 1) []] := by simp
          have hid : ((w.setCell ⟨blk, 0, none⟩ (.pointer (some ⟨blk, 0, none⟩))).setCell ⟨blk, 1, none⟩ (.slice none 0 0)) = w.setCell ⟨blk, 0, none⟩ (.pointer (some ⟨blk, 0, none⟩)) := by
            obtain ⟨fz, hh1, _⟩ := hh1; rw [setCell_eq_setRow _ blk 1 _ SB fz _ hh1]
            have : (#[Value.pointer (some ⟨blk, 0, none⟩), .slice none 0 0].setIfInBounds 1 (.slice none 0 0)) = #[Value.pointer (some ⟨blk, 0, none⟩), .slice none 0 0] := rfl
            rw [this]; exact setRow_self _ _ _ _ _ hh1
          simp only [hset, hid] at f3
          exact ⟨_, _, rfl, f3.drew.1.unit⟩
      · cases e
    · cases e
  · cases e
end Go.Proofs.Tryd.Ai
end
section
/- Texts by the machine's own words: a byte's place, a byte's number, the order. -/
namespace Go.Proofs.Tryd.Ai
open Go Go.AI Go.RowKit Go.Proofs
set_option linter.unusedVariables false

set_option maxHeartbeats 1000000 in
set_option maxRecDepth 100000 in
theorem walk_index (s : ByteArray) (c : Int) (w : World) :
    Calls Tryd.prog 65 #[.string s, .int .u8 c] w fun e w' => e = .returned (.int .i64 (Lib.indexByte s.data.toList c.toNat.toUInt8)) ∧ w' = w := by
  go_enter Tryd.func65, Tryd.ntmps65
  go_wp2
  rw [run_callFunc_extern Tryd.func84 (by kernel_rfl) (by kernel_rfl) (by kernel_rfl) (e := Extern.BytealgIndexByte.indexByte) (by kernel_rfl), Lib.run_indexByteString]
  simp only [Result.andThen]
  rw [Oper.upon_value]
  go_wp2
  go_ret
  exact ⟨rfl, rfl⟩


set_option maxHeartbeats 1000000 in
set_option maxRecDepth 100000 in
theorem walk_count (s : ByteArray) (c : UInt8) (w : World) :
    Calls Tryd.prog 49 #[.string s, .string ⟨#[c]⟩] w fun e w' => e = .returned (.int .i64 (Lib.countByte s.data.toList c)) ∧ w' = w := by
  go_enter Tryd.func49, Tryd.ntmps49
  go_wp2
  rw [run_callFunc_extern Tryd.func70 (by kernel_rfl) (by kernel_rfl) (by kernel_rfl) (e := Extern.BytealgCount.count) (by kernel_rfl), Lib.run_countString]
  simp only [Result.andThen]
  rw [Oper.upon_value]
  go_wp2
  go_ret
  exact ⟨rfl, rfl⟩

section
variable {B : Nat} {W0 : World} {T0 : Nat → Prop} {μ0 : Gh} {w0 : World} {N : Nat} {μ : Gh} {lx : Nat → Option Nat} {a : Act} {w : World} {st : St}
theorem sim_num (h : Sim B T0 μ0 w0 N μ lx a w st) (k : IntKind) (n : Int) : Sim B T0 μ0 w0 1 μ (fun _ => none) ⟨#[.int k n], []⟩ w ⟨[(0, .int k n)], [], st.s⟩ :=
  h.out (.mk' ⟨.int k n, trivial⟩ fun j => by cases j <;> simp [ownV, exBlk]) fun d i q => by cases q
theorem two_args {vs : Array Value} (h : vs.size = 2) : ∃ u v, vs = #[u, v] := by
  obtain ⟨l⟩ := vs
  match l, h with
  | [u, v], _ => exact ⟨u, v, rfl⟩
theorem rep_str {v : Value} {l : List UInt8} (h : Rep B μ w v (.str l)) : ∃ s : ByteArray, v = .string s ∧ s.data.toList = l := by
  cases h with
  | str s => exact ⟨s, rfl, rfl⟩
theorem rep_int {v : Value} {k : IntKind} {n : Int} (h : Rep B μ w v (.int k n)) : v = .int k n := by
  cases h; rfl
end

def indexT : List AV → List (List AV) → Option (AV × List (List AV))
  | [.str l, .int .u8 c], s => some (.int .i64 (Lib.indexByte l c.toNat.toUInt8), s)
  | _, _ => none
theorem index_ok {B : Nat} {W0 : World} {xs : List AV} {s : List (List AV)} {r : AV} {s' : List (List AV)} (e : indexT xs s = some (r, s')) : ACalls Tryd.prog B W0 65 xs s r s' := by
  unfold indexT at e
  split at e
  · rename_i l c
    simp only [Option.some.injEq, Prod.mk.injEq] at e
    obtain ⟨rfl, rfl⟩ := e
    intro T μ w vs hsz hW hs
    obtain ⟨u, v, rfl⟩ := two_args (vs := vs) hsz
    obtain ⟨st, rfl, rfl⟩ := rep_str (hs.tmp 0 (.str l) (by simp [params, look])).1
    obtain rfl := rep_int (hs.tmp 1 (.int .u8 c) (by simp [params, look])).1
    refine (walk_index st c w).mono ?_
    rintro e w' ⟨rfl, rfl⟩
    exact ⟨_, _, rfl, sim_num hs _ _⟩
  · cases e
def countT : List AV → List (List AV) → Option (AV × List (List AV))
  | [.str l, .str [c]], s => some (.int .i64 (Lib.countByte l c), s)
  | _, _ => none
theorem count_ok {B : Nat} {W0 : World} {xs : List AV} {s : List (List AV)} {r : AV} {s' : List (List AV)} (e : countT xs s = some (r, s')) : ACalls Tryd.prog B W0 49 xs s r s' := by
  unfold countT at e
  split at e
  · rename_i l c
    simp only [Option.some.injEq, Prod.mk.injEq] at e
    obtain ⟨rfl, rfl⟩ := e
    intro T μ w vs hsz hW hs
    obtain ⟨u, v, rfl⟩ := two_args (vs := vs) hsz
    obtain ⟨st, rfl, rfl⟩ := rep_str (hs.tmp 0 (.str l) (by simp [params, look])).1
    obtain ⟨⟨⟨p⟩⟩, rfl, hp⟩ := rep_str (hs.tmp 1 (.str [c]) (by simp [params, look])).1
    simp only at hp
    subst hp
    refine (walk_count st c w).mono ?_
    rintro e w' ⟨rfl, rfl⟩
    exact ⟨_, _, rfl, sim_num hs _ _⟩
  · cases e
end Go.Proofs.Tryd.Ai
end
section
/- The digits of a number: by the laid table of powers. -/
namespace Go.Proofs.Tryd.Ai
open Go Go.AI Go.RowKit Go.Proofs Go.Shelf
set_option linter.unusedVariables false
def ren : Go.Shelf.Ren := ⟨fun | 99 => 44 | 105 => 30 | 129 => 80 | 138 => 49 | 143 => 50 | 145 => 19 | 146 => 20 | 154 => 35 | 155 => 22 | 156 => 23 | 165 => 36 | 166 => 37 | 169 => 25 | 170 => 45 | 171 => 18 | 172 => 34 | 195 => 69 | 197 => 53 | 205 => 88 | 206 => 60 | 212 => 43 | 217 => 65 | 218 => 70 | 219 => 47 | 220 => 32 | 221 => 33 | 224 => 67 | 225 => 66 | 240 => 38 | 241 => 54 | 243 => 31 | 244 => 51 | 245 => 52 | 246 => 46 | 247 => 71 | 260 => 76 | 263 => 58 | 264 => 59 | 266 => 84 | 267 => 68 | 268 => 48 | 276 => 55 | 277 => 77 | 279 => 72 | 280 => 73 | 281 => 74 | 282 => 75 | 283 => 61 | 284 => 62 | 285 => 63 | 286 => 64 | 287 => 86 | 314 => 85 | 316 => 87 | 317 => 79 | 318 => 81 | 319 => 82 | 320 => 83 | 321 => 91 | 322 => 92 | 337 => 89 | 338 => 90 | n => n, fun | 0 => 0 | 2 => 2 | 3 => 3 | 4 => 4 | 5 => 5 | 9 => 9 | 20 => 20 | 21 => 21 | 31 => 28 | 37 => 38 | 46 => 77 | 51 => 69 | 53 => 94 | 59 => 48 | 70 => 54 | 72 => 56 | 75 => 58 | 76 => 64 | 80 => 60 | 85 => 104 | 105 => 86 | 109 => 78 | 119 => 121 | 127 => 68 | 138 => 123 | 139 => 124 | 143 => 128 | 145 => 130 | 146 => 92 | 148 => 95 | 164 => 88 | 167 => 103 | 168 => 106 | 171 => 97 | 173 => 100 | 175 => 115 | 210 => 119 | 212 => 111 | 213 => 112 | 232 => 131 | 233 => 132 | n => n, fun | 1 => 0 | 3 => 4 | 4 => 5 | 15 => 2 | 16 => 3 | 17 => 1 | 18 => 6 | 19 => 7 | n => n⟩
theorem lays_LaysM_n171 : LaysM.n171 Tryd.prog ren := { mixed := by kernel_rfl, f129 := by kernel_rfl, f171 := by kernel_rfl, f243 := by kernel_rfl, f246 := by kernel_rfl, f283 := by kernel_rfl, f284 := by kernel_rfl, f285 := by kernel_rfl, f286 := by kernel_rfl, f317 := by kernel_rfl, f318 := by kernel_rfl, f319 := by kernel_rfl, f320 := by kernel_rfl, f337 := by kernel_rfl, f338 := by kernel_rfl, t0 := Tryd.underlying0, a0 := Tryd.isAgg0, z0 := Tryd.sizeOf0, v0 := Tryd.zeroValue0, t2 := Tryd.underlying2, a2 := Tryd.isAgg2, z2 := Tryd.sizeOf2, v2 := Tryd.zeroValue2, t3 := Tryd.underlying3, a3 := Tryd.isAgg3, z3 := Tryd.sizeOf3, v3 := Tryd.zeroValue3, t4 := Tryd.underlying4, a4 := Tryd.isAgg4, z4 := Tryd.sizeOf4, v4 := Tryd.zeroValue4, t5 := Tryd.underlying5, a5 := Tryd.isAgg5, z5 := Tryd.sizeOf5, v5 := Tryd.zeroValue5, t9 := Tryd.underlying9, a9 := Tryd.isAgg9, z9 := Tryd.sizeOf9, v9 := Tryd.zeroValue9, t20 := Tryd.underlying20, a20 := Tryd.isAgg20, z20 := Tryd.sizeOf20, v20 := Tryd.zeroValue20, t37 := Tryd.underlying38, a37 := Tryd.isAgg38, z37 := Tryd.sizeOf38, v37 := Tryd.zeroValue38, t46 := Tryd.underlying77, a46 := Tryd.isAgg77, z46 := Tryd.sizeOf77, v46 := Tryd.zeroValue77, t51 := Tryd.underlying69, a51 := Tryd.isAgg69, z51 := Tryd.sizeOf69, v51 := Tryd.zeroValue69, t53 := Tryd.underlying94, a53 := Tryd.isAgg94, z53 := Tryd.sizeOf94, v53 := Tryd.zeroValue94, t171 := Tryd.underlying97, a171 := Tryd.isAgg97, z171 := Tryd.sizeOf97, v171 := Tryd.zeroValue97, t173 := Tryd.underlying100, a173 := Tryd.isAgg100, z173 := Tryd.sizeOf100, v173 := Tryd.zeroValue100, t212 := Tryd.underlying111, a212 := Tryd.isAgg111, z212 := Tryd.sizeOf111, v212 := Tryd.zeroValue111, t213 := Tryd.underlying112, a213 := Tryd.isAgg112, z213 := Tryd.sizeOf112, t232 := Tryd.underlying131, a232 := Tryd.isAgg131, z232 := Tryd.sizeOf131, v232 := Tryd.zeroValue131, t233 := Tryd.underlying132, a233 := Tryd.isAgg132, z233 := Tryd.sizeOf132, v233 := Tryd.zeroValue132, g17 := by kernel_rfl, g18 := by kernel_rfl, g19 := by kernel_rfl, i0 := by kernel_rfl, i2 := by kernel_rfl, i3 := by kernel_rfl, i4 := by kernel_rfl, i5 := by kernel_rfl, i9 := by kernel_rfl, i20 := by kernel_rfl, i37 := by kernel_rfl, i46 := by kernel_rfl, i51 := by kernel_rfl, i53 := by kernel_rfl, i171 := by kernel_rfl, i173 := by kernel_rfl, i212 := by kernel_rfl, i232 := by kernel_rfl, i233 := by kernel_rfl, m17 := by kernel_rfl, m18 := by kernel_rfl, m19 := by kernel_rfl }
theorem lays_Lays_n219 : Lays.n219 Tryd.prog ren := { mixed := by kernel_rfl, f217 := by kernel_rfl, f219 := by kernel_rfl, f224 := by kernel_rfl, f225 := by kernel_rfl, f266 := by kernel_rfl, f267 := by kernel_rfl, f314 := by kernel_rfl, t3 := Tryd.underlying3, a3 := Tryd.isAgg3, z3 := Tryd.sizeOf3, v3 := Tryd.zeroValue3, t4 := Tryd.underlying4, a4 := Tryd.isAgg4, z4 := Tryd.sizeOf4, v4 := Tryd.zeroValue4, t5 := Tryd.underlying5, a5 := Tryd.isAgg5, z5 := Tryd.sizeOf5, v5 := Tryd.zeroValue5, t9 := Tryd.underlying9, a9 := Tryd.isAgg9, z9 := Tryd.sizeOf9, v9 := Tryd.zeroValue9, t46 := Tryd.underlying77, a46 := Tryd.isAgg77, z46 := Tryd.sizeOf77, v46 := Tryd.zeroValue77, t51 := Tryd.underlying69, a51 := Tryd.isAgg69, z51 := Tryd.sizeOf69, v51 := Tryd.zeroValue69, t146 := Tryd.underlying92, a146 := Tryd.isAgg92, z146 := Tryd.sizeOf92, v146 := Tryd.zeroValue92, g1 := by kernel_rfl }
theorem lays_LaysC_n172 : LaysC.n172 Tryd.prog ren := { mixed := by kernel_rfl, f129 := by kernel_rfl, f171 := by kernel_rfl, f172 := by kernel_rfl, f205 := by kernel_rfl, f243 := by kernel_rfl, f244 := by kernel_rfl, f245 := by kernel_rfl, f246 := by kernel_rfl, f247 := by kernel_rfl, f279 := by kernel_rfl, f280 := by kernel_rfl, f281 := by kernel_rfl, f282 := by kernel_rfl, f283 := by kernel_rfl, f284 := by kernel_rfl, f285 := by kernel_rfl, f286 := by kernel_rfl, f287 := by kernel_rfl, f316 := by kernel_rfl, f317 := by kernel_rfl, f318 := by kernel_rfl, f319 := by kernel_rfl, f320 := by kernel_rfl, f321 := by kernel_rfl, f322 := by kernel_rfl, f337 := by kernel_rfl, f338 := by kernel_rfl, t0 := Tryd.underlying0, a0 := Tryd.isAgg0, z0 := Tryd.sizeOf0, v0 := Tryd.zeroValue0, t2 := Tryd.underlying2, a2 := Tryd.isAgg2, z2 := Tryd.sizeOf2, v2 := Tryd.zeroValue2, t3 := Tryd.underlying3, a3 := Tryd.isAgg3, z3 := Tryd.sizeOf3, v3 := Tryd.zeroValue3, t4 := Tryd.underlying4, a4 := Tryd.isAgg4, z4 := Tryd.sizeOf4, v4 := Tryd.zeroValue4, t5 := Tryd.underlying5, a5 := Tryd.isAgg5, z5 := Tryd.sizeOf5, v5 := Tryd.zeroValue5, t9 := Tryd.underlying9, a9 := Tryd.isAgg9, z9 := Tryd.sizeOf9, v9 := Tryd.zeroValue9, t20 := Tryd.underlying20, a20 := Tryd.isAgg20, z20 := Tryd.sizeOf20, v20 := Tryd.zeroValue20, t21 := Tryd.underlying21, a21 := Tryd.isAgg21, z21 := Tryd.sizeOf21, v21 := Tryd.zeroValue21, t37 := Tryd.underlying38, a37 := Tryd.isAgg38, z37 := Tryd.sizeOf38, v37 := Tryd.zeroValue38, t46 := Tryd.underlying77, a46 := Tryd.isAgg77, z46 := Tryd.sizeOf77, v46 := Tryd.zeroValue77, t51 := Tryd.underlying69, a51 := Tryd.isAgg69, z51 := Tryd.sizeOf69, v51 := Tryd.zeroValue69, t53 := Tryd.underlying94, a53 := Tryd.isAgg94, z53 := Tryd.sizeOf94, v53 := Tryd.zeroValue94, t75 := Tryd.underlying58, a75 := Tryd.isAgg58, z75 := Tryd.sizeOf58, v75 := Tryd.zeroValue58, t76 := Tryd.underlying64, a76 := Tryd.isAgg64, z76 := Tryd.sizeOf64, v76 := Tryd.zeroValue64, t85 := Tryd.underlying104, a85 := Tryd.isAgg104, z85 := Tryd.sizeOf104, v85 := Tryd.zeroValue104, t127 := Tryd.underlying68, a127 := Tryd.isAgg68, z127 := Tryd.sizeOf68, v127 := Tryd.zeroValue68, t143 := Tryd.underlying128, a143 := Tryd.isAgg128, z143 := Tryd.sizeOf128, v143 := Tryd.zeroValue128, t145 := Tryd.underlying130, a145 := Tryd.isAgg130, z145 := Tryd.sizeOf130, v145 := Tryd.zeroValue130, t167 := Tryd.underlying103, a167 := Tryd.isAgg103, z167 := Tryd.sizeOf103, v167 := Tryd.zeroValue103, t168 := Tryd.underlying106, a168 := Tryd.isAgg106, z168 := Tryd.sizeOf106, v168 := Tryd.zeroValue106, t171 := Tryd.underlying97, a171 := Tryd.isAgg97, z171 := Tryd.sizeOf97, v171 := Tryd.zeroValue97, t173 := Tryd.underlying100, a173 := Tryd.isAgg100, z173 := Tryd.sizeOf100, v173 := Tryd.zeroValue100, t175 := Tryd.underlying115, a175 := Tryd.isAgg115, z175 := Tryd.sizeOf115, v175 := Tryd.zeroValue115, t210 := Tryd.underlying119, a210 := Tryd.isAgg119, z210 := Tryd.sizeOf119, v210 := Tryd.zeroValue119, t212 := Tryd.underlying111, a212 := Tryd.isAgg111, z212 := Tryd.sizeOf111, v212 := Tryd.zeroValue111, t213 := Tryd.underlying112, a213 := Tryd.isAgg112, z213 := Tryd.sizeOf112, t232 := Tryd.underlying131, a232 := Tryd.isAgg131, z232 := Tryd.sizeOf131, v232 := Tryd.zeroValue131, t233 := Tryd.underlying132, a233 := Tryd.isAgg132, z233 := Tryd.sizeOf132, v233 := Tryd.zeroValue132, g15 := by kernel_rfl, g16 := by kernel_rfl, g17 := by kernel_rfl, g18 := by kernel_rfl, g19 := by kernel_rfl, t80 := Tryd.underlying60, a80 := Tryd.isAgg60, z80 := Tryd.sizeOf60, v80 := Tryd.zeroValue60, i0 := by kernel_rfl, i2 := by kernel_rfl, i3 := by kernel_rfl, i4 := by kernel_rfl, i5 := by kernel_rfl, i9 := by kernel_rfl, i20 := by kernel_rfl, i21 := by kernel_rfl, i37 := by kernel_rfl, i46 := by kernel_rfl, i51 := by kernel_rfl, i53 := by kernel_rfl, i75 := by kernel_rfl, i76 := by kernel_rfl, i80 := by kernel_rfl, i85 := by kernel_rfl, i127 := by kernel_rfl, i143 := by kernel_rfl, i145 := by kernel_rfl, i167 := by kernel_rfl, i168 := by kernel_rfl, i171 := by kernel_rfl, i173 := by kernel_rfl, i175 := by kernel_rfl, i210 := by kernel_rfl, i212 := by kernel_rfl, i232 := by kernel_rfl, i233 := by kernel_rfl, m15 := by kernel_rfl, m16 := by kernel_rfl, m17 := by kernel_rfl, m18 := by kernel_rfl, m19 := by kernel_rfl, c0 := by kernel_rfl, c2 := by kernel_rfl, c3 := by kernel_rfl, c4 := by kernel_rfl, c5 := by kernel_rfl, c9 := by kernel_rfl, c20 := by kernel_rfl, c21 := by kernel_rfl, c37 := by kernel_rfl, c46 := by kernel_rfl, c51 := by kernel_rfl, c53 := by kernel_rfl, c75 := by kernel_rfl, c76 := by kernel_rfl, c80 := by kernel_rfl, c85 := by kernel_rfl, c127 := by kernel_rfl, c143 := by kernel_rfl, c145 := by kernel_rfl, c167 := by kernel_rfl, c168 := by kernel_rfl, c171 := by kernel_rfl, c173 := by kernel_rfl, c175 := by kernel_rfl, c210 := by kernel_rfl, c212 := by kernel_rfl, c213 := by kernel_rfl, c232 := by kernel_rfl, c233 := by kernel_rfl }
theorem lays_Lays_n155 : Lays.n155 Tryd.prog ren := { mixed := by kernel_rfl, f138 := by kernel_rfl, f143 := by kernel_rfl, f154 := by kernel_rfl, f155 := by kernel_rfl, f165 := by kernel_rfl, f166 := by kernel_rfl, f169 := by kernel_rfl, f195 := by kernel_rfl, f197 := by kernel_rfl, f217 := by kernel_rfl, f218 := by kernel_rfl, f219 := by kernel_rfl, f224 := by kernel_rfl, f225 := by kernel_rfl, f240 := by kernel_rfl, f241 := by kernel_rfl, f260 := by kernel_rfl, f266 := by kernel_rfl, f267 := by kernel_rfl, f276 := by kernel_rfl, f277 := by kernel_rfl, f314 := by kernel_rfl, t0 := Tryd.underlying0, a0 := Tryd.isAgg0, z0 := Tryd.sizeOf0, v0 := Tryd.zeroValue0, t3 := Tryd.underlying3, a3 := Tryd.isAgg3, z3 := Tryd.sizeOf3, v3 := Tryd.zeroValue3, t4 := Tryd.underlying4, a4 := Tryd.isAgg4, z4 := Tryd.sizeOf4, v4 := Tryd.zeroValue4, t5 := Tryd.underlying5, a5 := Tryd.isAgg5, z5 := Tryd.sizeOf5, v5 := Tryd.zeroValue5, t9 := Tryd.underlying9, a9 := Tryd.isAgg9, z9 := Tryd.sizeOf9, v9 := Tryd.zeroValue9, t20 := Tryd.underlying20, a20 := Tryd.isAgg20, z20 := Tryd.sizeOf20, v20 := Tryd.zeroValue20, t21 := Tryd.underlying21, a21 := Tryd.isAgg21, z21 := Tryd.sizeOf21, v21 := Tryd.zeroValue21, t37 := Tryd.underlying38, a37 := Tryd.isAgg38, z37 := Tryd.sizeOf38, v37 := Tryd.zeroValue38, t46 := Tryd.underlying77, a46 := Tryd.isAgg77, z46 := Tryd.sizeOf77, v46 := Tryd.zeroValue77, t51 := Tryd.underlying69, a51 := Tryd.isAgg69, z51 := Tryd.sizeOf69, v51 := Tryd.zeroValue69, t70 := Tryd.underlying54, a70 := Tryd.isAgg54, z70 := Tryd.sizeOf54, v70 := Tryd.zeroValue54, t72 := Tryd.underlying56, a72 := Tryd.isAgg56, z72 := Tryd.sizeOf56, v72 := Tryd.zeroValue56, t75 := Tryd.underlying58, a75 := Tryd.isAgg58, z75 := Tryd.sizeOf58, v75 := Tryd.zeroValue58, t76 := Tryd.underlying64, a76 := Tryd.isAgg64, z76 := Tryd.sizeOf64, v76 := Tryd.zeroValue64, t105 := Tryd.underlying86, a105 := Tryd.isAgg86, z105 := Tryd.sizeOf86, v105 := Tryd.zeroValue86, t119 := Tryd.underlying121, a119 := Tryd.isAgg121, z119 := Tryd.sizeOf121, t127 := Tryd.underlying68, a127 := Tryd.isAgg68, z127 := Tryd.sizeOf68, v127 := Tryd.zeroValue68, t138 := Tryd.underlying123, a138 := Tryd.isAgg123, z138 := Tryd.sizeOf123, v138 := Tryd.zeroValue123, t139 := Tryd.underlying124, a139 := Tryd.isAgg124, z139 := Tryd.sizeOf124, v139 := Tryd.zeroValue124, t146 := Tryd.underlying92, a146 := Tryd.isAgg92, z146 := Tryd.sizeOf92, v146 := Tryd.zeroValue92, t164 := Tryd.underlying88, a164 := Tryd.isAgg88, z164 := Tryd.sizeOf88, v164 := Tryd.zeroValue88, g1 := by kernel_rfl, g3 := by kernel_rfl, g4 := by kernel_rfl }
theorem lays_Lays_n105 : Lays.n105 Tryd.prog ren := { mixed := by kernel_rfl, f99 := by kernel_rfl, f105 := by kernel_rfl, f165 := by kernel_rfl, f166 := by kernel_rfl, f169 := by kernel_rfl, f170 := by kernel_rfl, f206 := by kernel_rfl, f212 := by kernel_rfl, f240 := by kernel_rfl, f241 := by kernel_rfl, f263 := by kernel_rfl, f264 := by kernel_rfl, f276 := by kernel_rfl, f277 := by kernel_rfl, t0 := Tryd.underlying0, a0 := Tryd.isAgg0, z0 := Tryd.sizeOf0, v0 := Tryd.zeroValue0, t3 := Tryd.underlying3, a3 := Tryd.isAgg3, z3 := Tryd.sizeOf3, v3 := Tryd.zeroValue3, t4 := Tryd.underlying4, a4 := Tryd.isAgg4, z4 := Tryd.sizeOf4, v4 := Tryd.zeroValue4, t5 := Tryd.underlying5, a5 := Tryd.isAgg5, z5 := Tryd.sizeOf5, v5 := Tryd.zeroValue5, t9 := Tryd.underlying9, a9 := Tryd.isAgg9, z9 := Tryd.sizeOf9, v9 := Tryd.zeroValue9, t20 := Tryd.underlying20, a20 := Tryd.isAgg20, z20 := Tryd.sizeOf20, v20 := Tryd.zeroValue20, t37 := Tryd.underlying38, a37 := Tryd.isAgg38, z37 := Tryd.sizeOf38, v37 := Tryd.zeroValue38, t46 := Tryd.underlying77, a46 := Tryd.isAgg77, z46 := Tryd.sizeOf77, v46 := Tryd.zeroValue77, t51 := Tryd.underlying69, a51 := Tryd.isAgg69, z51 := Tryd.sizeOf69, v51 := Tryd.zeroValue69, t53 := Tryd.underlying94, a53 := Tryd.isAgg94, z53 := Tryd.sizeOf94, v53 := Tryd.zeroValue94, t70 := Tryd.underlying54, a70 := Tryd.isAgg54, z70 := Tryd.sizeOf54, v70 := Tryd.zeroValue54, t72 := Tryd.underlying56, a72 := Tryd.isAgg56, z72 := Tryd.sizeOf56, v72 := Tryd.zeroValue56, t75 := Tryd.underlying58, a75 := Tryd.isAgg58, z75 := Tryd.sizeOf58, v75 := Tryd.zeroValue58, t76 := Tryd.underlying64, a76 := Tryd.isAgg64, z76 := Tryd.sizeOf64, v76 := Tryd.zeroValue64, t109 := Tryd.underlying78, a109 := Tryd.isAgg78, z109 := Tryd.sizeOf78, v109 := Tryd.zeroValue78, t127 := Tryd.underlying68, a127 := Tryd.isAgg68, z127 := Tryd.sizeOf68, v127 := Tryd.zeroValue68, t146 := Tryd.underlying92, a146 := Tryd.isAgg92, z146 := Tryd.sizeOf92, v146 := Tryd.zeroValue92, t148 := Tryd.underlying95, a148 := Tryd.isAgg95, z148 := Tryd.sizeOf95, v148 := Tryd.zeroValue95, t164 := Tryd.underlying88, a164 := Tryd.isAgg88, z164 := Tryd.sizeOf88, v164 := Tryd.zeroValue88 }
theorem lays_Builder_Extra : Builder.Extra Tryd.prog ren := { sizeBuilder := by kernel_rfl, liesBuilder := by kernel_rfl, t5 := Tryd.underlying5, a5 := Tryd.isAgg5, z5 := Tryd.sizeOf5, v5 := Tryd.zeroValue5, infoByte := by kernel_rfl, cellsByte := by kernel_rfl, sizeByte := by kernel_rfl, neB5 := by decide }
theorem lays_Lays_n145 : Lays.n145 Tryd.prog ren := { mixed := by kernel_rfl, f145 := by kernel_rfl, f217 := by kernel_rfl, f219 := by kernel_rfl, f220 := by kernel_rfl, f224 := by kernel_rfl, f225 := by kernel_rfl, f266 := by kernel_rfl, f267 := by kernel_rfl, f314 := by kernel_rfl, t3 := Tryd.underlying3, a3 := Tryd.isAgg3, z3 := Tryd.sizeOf3, v3 := Tryd.zeroValue3, t4 := Tryd.underlying4, a4 := Tryd.isAgg4, z4 := Tryd.sizeOf4, v4 := Tryd.zeroValue4, t5 := Tryd.underlying5, a5 := Tryd.isAgg5, z5 := Tryd.sizeOf5, v5 := Tryd.zeroValue5, t9 := Tryd.underlying9, a9 := Tryd.isAgg9, z9 := Tryd.sizeOf9, v9 := Tryd.zeroValue9, t46 := Tryd.underlying77, a46 := Tryd.isAgg77, z46 := Tryd.sizeOf77, v46 := Tryd.zeroValue77, t51 := Tryd.underlying69, a51 := Tryd.isAgg69, z51 := Tryd.sizeOf69, v51 := Tryd.zeroValue69, t59 := Tryd.underlying48, a59 := Tryd.isAgg48, z59 := Tryd.sizeOf48, v59 := Tryd.zeroValue48, t146 := Tryd.underlying92, a146 := Tryd.isAgg92, z146 := Tryd.sizeOf92, v146 := Tryd.zeroValue92, g1 := by kernel_rfl }
theorem lays_Lays_n146 : Lays.n146 Tryd.prog ren := { mixed := by kernel_rfl, f138 := by kernel_rfl, f143 := by kernel_rfl, f146 := by kernel_rfl, f195 := by kernel_rfl, f197 := by kernel_rfl, f217 := by kernel_rfl, f218 := by kernel_rfl, f219 := by kernel_rfl, f221 := by kernel_rfl, f224 := by kernel_rfl, f225 := by kernel_rfl, f260 := by kernel_rfl, f266 := by kernel_rfl, f267 := by kernel_rfl, f268 := by kernel_rfl, f314 := by kernel_rfl, t0 := Tryd.underlying0, a0 := Tryd.isAgg0, z0 := Tryd.sizeOf0, v0 := Tryd.zeroValue0, t3 := Tryd.underlying3, a3 := Tryd.isAgg3, z3 := Tryd.sizeOf3, v3 := Tryd.zeroValue3, t4 := Tryd.underlying4, a4 := Tryd.isAgg4, z4 := Tryd.sizeOf4, v4 := Tryd.zeroValue4, t5 := Tryd.underlying5, a5 := Tryd.isAgg5, z5 := Tryd.sizeOf5, v5 := Tryd.zeroValue5, t9 := Tryd.underlying9, a9 := Tryd.isAgg9, z9 := Tryd.sizeOf9, v9 := Tryd.zeroValue9, t21 := Tryd.underlying21, a21 := Tryd.isAgg21, z21 := Tryd.sizeOf21, v21 := Tryd.zeroValue21, t31 := Tryd.underlying28, a31 := Tryd.isAgg28, z31 := Tryd.sizeOf28, v31 := Tryd.zeroValue28, t46 := Tryd.underlying77, a46 := Tryd.isAgg77, z46 := Tryd.sizeOf77, v46 := Tryd.zeroValue77, t51 := Tryd.underlying69, a51 := Tryd.isAgg69, z51 := Tryd.sizeOf69, v51 := Tryd.zeroValue69, t105 := Tryd.underlying86, a105 := Tryd.isAgg86, z105 := Tryd.sizeOf86, v105 := Tryd.zeroValue86, t119 := Tryd.underlying121, a119 := Tryd.isAgg121, z119 := Tryd.sizeOf121, t138 := Tryd.underlying123, a138 := Tryd.isAgg123, z138 := Tryd.sizeOf123, v138 := Tryd.zeroValue123, t139 := Tryd.underlying124, a139 := Tryd.isAgg124, z139 := Tryd.sizeOf124, v139 := Tryd.zeroValue124, t146 := Tryd.underlying92, a146 := Tryd.isAgg92, z146 := Tryd.sizeOf92, v146 := Tryd.zeroValue92, g1 := by kernel_rfl, g3 := by kernel_rfl, g4 := by kernel_rfl }
theorem lays_Lays_n99 : Lays.n99 Tryd.prog ren := { mixed := by kernel_rfl, f99 := by kernel_rfl, f206 := by kernel_rfl, t3 := Tryd.underlying3, a3 := Tryd.isAgg3, z3 := Tryd.sizeOf3, v3 := Tryd.zeroValue3, t4 := Tryd.underlying4, a4 := Tryd.isAgg4, z4 := Tryd.sizeOf4, v4 := Tryd.zeroValue4, t9 := Tryd.underlying9, a9 := Tryd.isAgg9, z9 := Tryd.sizeOf9, v9 := Tryd.zeroValue9 }
theorem lays_Lays_n156 : Lays.n156 Tryd.prog ren := { mixed := by kernel_rfl, f156 := by kernel_rfl, f165 := by kernel_rfl, f166 := by kernel_rfl, f169 := by kernel_rfl, f240 := by kernel_rfl, f241 := by kernel_rfl, f276 := by kernel_rfl, f277 := by kernel_rfl, t0 := Tryd.underlying0, a0 := Tryd.isAgg0, z0 := Tryd.sizeOf0, v0 := Tryd.zeroValue0, t3 := Tryd.underlying3, a3 := Tryd.isAgg3, z3 := Tryd.sizeOf3, v3 := Tryd.zeroValue3, t4 := Tryd.underlying4, a4 := Tryd.isAgg4, z4 := Tryd.sizeOf4, v4 := Tryd.zeroValue4, t9 := Tryd.underlying9, a9 := Tryd.isAgg9, z9 := Tryd.sizeOf9, v9 := Tryd.zeroValue9, t20 := Tryd.underlying20, a20 := Tryd.isAgg20, z20 := Tryd.sizeOf20, v20 := Tryd.zeroValue20, t31 := Tryd.underlying28, a31 := Tryd.isAgg28, z31 := Tryd.sizeOf28, v31 := Tryd.zeroValue28, t37 := Tryd.underlying38, a37 := Tryd.isAgg38, z37 := Tryd.sizeOf38, v37 := Tryd.zeroValue38, t70 := Tryd.underlying54, a70 := Tryd.isAgg54, z70 := Tryd.sizeOf54, v70 := Tryd.zeroValue54, t72 := Tryd.underlying56, a72 := Tryd.isAgg56, z72 := Tryd.sizeOf56, v72 := Tryd.zeroValue56, t75 := Tryd.underlying58, a75 := Tryd.isAgg58, z75 := Tryd.sizeOf58, v75 := Tryd.zeroValue58, t76 := Tryd.underlying64, a76 := Tryd.isAgg64, z76 := Tryd.sizeOf64, v76 := Tryd.zeroValue64, t127 := Tryd.underlying68, a127 := Tryd.isAgg68, z127 := Tryd.sizeOf68, v127 := Tryd.zeroValue68, t164 := Tryd.underlying88, a164 := Tryd.isAgg88, z164 := Tryd.sizeOf88, v164 := Tryd.zeroValue88 }


def Laid (W : World) : Prop := Lib.TabIs Tryd.prog W "internal/strconv.uint64pow10" .u64 Lib.pow10Tab
section
variable {B : Nat} {T0 : Nat → Prop} {μ0 : Gh} {w0 : World} {N : Nat} {μ : Gh} {lx : Nat → Option Nat} {a : Act} {w : World} {st : St}
theorem sim_drewN (h : Sim B T0 μ0 w0 N μ lx a w st) (k : Nat) : Sim B T0 μ0 w0 N μ lx a (w.drewN k) st := by
  induction k with
  | zero => exact h
  | succ k ih => exact ih.drew.1
theorem sim_grow (os : List Obj) : ∀ {w : World}, Sim B T0 μ0 w0 N μ lx a w st → Sim B T0 μ0 w0 N μ lx a (Go.Sort.grow w os.toArray) st := by
  induction os with
  | nil => exact fun h => by simpa using h
  | cons o r ih =>
    intro w h
    have := ih (h.alloc o)
    rw [Go.Sort.alloc_eq_grow, Go.Sort.grow_grow] at this
    simpa using this
end
noncomputable def itoaT : List AV → List (List AV) → Option (AV × List (List AV))
  | [.int .i64 n], s => need (-9223372036854775808 ≤ n ∧ n ≤ 9223372036854775807) (some (.str (Lib.itoa n), s))
  | _, _ => none
theorem itoa_ok {W0 : World} (hl : Laid W0) {xs : List AV} {s : List (List AV)} {r : AV} {s' : List (List AV)} (e : itoaT xs s = some (r, s')) : ACalls Tryd.prog W0.heap.size W0 18 xs s r s' := by
  unfold itoaT at e
  split at e
  · rename_i n
    obtain ⟨hn, e⟩ := need_eq e
    simp only [Option.some.injEq, Prod.mk.injEq] at e
    obtain ⟨rfl, rfl⟩ := e
    intro T μ w vs hsz hW hs
    obtain ⟨v, rfl, _⟩ := one_arg (B := 0) (T0 := T) (μ0 := μ) (w0 := w) (N := 1) (μ := μ) (lx := fun _ => none) (w := w) (x := .nilp) (s := []) hsz
    obtain rfl := rep_int (hs.tmp 0 (.int .i64 n) (by simp [params, look])).1
    have hw : Laid w := Lib.tabBelow_of_tabIs hl w hW
    refine (Any.strconv_Itoa lays_LaysM_n171 n hn.1 hn.2 w hw).mono ?_
    rintro e w' ⟨rfl, k, os, rfl⟩
    exact ⟨_, _, rfl, by have := (sim_grow os.toList (sim_drewN hs k)).text (Lib.itoa n); simpa using this⟩
  · cases e
end Go.Proofs.Tryd.Ai
end
section
/- Functions of the library, by the kit's contracts. -/
namespace Go.Proofs.Tryd.Ai
open Go Go.AI Go.RowKit Go.Proofs Go.Shelf
set_option linter.unusedVariables false

def IntAt (W : World) (g : Nat) : Prop := ∃ m, W.cell? ⟨g, 0, none⟩ = some (.int .i64 m)
def ErrAt (W : World) (g : Nat) : Prop := ∃ ev, W.cell? ⟨g, 0, none⟩ = some ev ∧ (ev = .nilIface ∨ ∃ te pe, ev = .iface te pe)
theorem IntAt.below {W0 w : World} {g : Nat} (h : IntAt W0 g) (hb : Below W0.heap.size W0 w) : IntAt w g := by
  obtain ⟨m, hm⟩ := h
  exact ⟨m, by rw [hb.cell (World.block_lt_of_cell? _ _ hm)]; exact hm⟩
theorem ErrAt.below {W0 w : World} {g : Nat} (h : ErrAt W0 g) (hb : Below W0.heap.size W0 w) : ErrAt w g := by
  obtain ⟨m, hm, hx⟩ := h
  exact ⟨m, by rw [hb.cell (World.block_lt_of_cell? _ _ hm)]; exact hm, hx⟩
/-- what a row lays, and what each world has -/
structure LaidAll (W : World) : Prop where
  tab : Laid W
  max : IntAt W 0
  esyn : ErrAt W 2
  eran : ErrAt W 3
theorem maxLen_of {W : World} (h : W.ShapedOpen Tryd.prog) : IntAt W 0 :=
  cell_of_shapedOpen_int (t := 3) (zero := #[.int .i64 0]) h (by decide +kernel) (by kernel_rfl) rfl (by kernel_rfl) (by kernel_rfl) Tryd.underlying3
noncomputable def indexST : List AV → List (List AV) → Option (AV × List (List AV))
  | [.str l, .str m], s => need (l.length < 4294967281) (some (.int .i64 (Lib.index l m), s))
  | _, _ => none
theorem indexS_ok {W0 : World} (hl : LaidAll W0) {xs : List AV} {s : List (List AV)} {r : AV} {s' : List (List AV)} (e : indexST xs s = some (r, s')) : ACalls Tryd.prog W0.heap.size W0 47 xs s r s' := by
  unfold indexST at e
  split at e
  · rename_i l m
    obtain ⟨hn, e⟩ := need_eq e
    simp only [Option.some.injEq, Prod.mk.injEq] at e
    obtain ⟨rfl, rfl⟩ := e
    refine ACalls_ext fun w vs hsz hW hr => ?_
    obtain ⟨u, v, rfl⟩ := two_args (vs := vs) hsz
    obtain ⟨μ, h0⟩ := hr 0 (.str l) rfl
    obtain ⟨μ', h1⟩ := hr 1 (.str m) rfl
    obtain ⟨a, rfl, rfl⟩ := rep_str (h0.resolve_right (by simp [isTup]))
    obtain ⟨b, rfl, rfl⟩ := rep_str (h1.resolve_right (by simp [isTup]))
    obtain ⟨k, hk⟩ := hl.max.below hW
    refine (Any.stringslite_Index lays_Lays_n219 a b k w (by simpa using hn) hk).mono ?_
    rintro e w' ⟨rfl, rfl⟩
    exact ⟨_, rfl, AI.Told.int _ _, Below.refl _ _⟩
  · cases e
theorem starErr : "*" ++ "errors.errorString" = "*errors.errorString" := by decide
theorem rowErr (u : TypeId) (h : Tryd.prog.typeName? 3 u = some "*errors.errorString") : u = 128 :=
  typeName_ptr_named (nm := "errors.errorString") (by rw [starErr]; kernel_rfl) (by kernel_rfl) (by decide) u (by rw [starErr]; exact h)
theorem laidMet_drop {P : Program} {w : World} (k : Nat) : ∀ {laid : List (String × DataW Unit)}, laidMet P laid w → laidMet P (laid.drop k) w := by
  induction k with
  | zero => intro laid h; exact h
  | succ k ih =>
    intro laid h
    cases laid with
    | nil => exact h
    | cons x r => exact ih h.tail
theorem errAt_of {n : String} {text : List UInt8} {r : List (String × DataW Unit)} {W : World} {g : Nat} (h : laidMet Tryd.prog ((n, .iface "*errors.errorString" (.ptr (.agg [.lit (.string text)]))) :: r) W)
    (hg : Tryd.prog.globalNamed n = some g) (ht : (Tryd.prog.globals[g]?).map (·.type) = some 58) : ErrAt W g := by
  obtain ⟨a0, s0, hv0, -, -, -⟩ := laid_sentinel h hg ht Tryd.underlying58 rowErr Tryd.underlying128 Tryd.underlying130 rfl rfl Tryd.underlying9 (by kernel_rfl) (by kernel_rfl)
  exact ⟨_, by have h0 := World.var?_cell hg hv0 0; simpa using h0, .inr ⟨_, _, rfl⟩⟩
noncomputable def atoiT : List AV → List (List AV) → Option (AV × List (List AV))
  | [.str l], s => need (l.length ≤ 281474976710656) (match Lib.atoiAll l with
    | .ok v => some (.tup [.int .i64 v, .nili], s)
    | .range => some (.tup [.int .i64 (Lib.atoiSat l), .ifx], s)
    | _ => some (.tup [.int .i64 0, .ifx], s))
  | _, _ => none
theorem atoi_ok {W0 : World} (hl : LaidAll W0) {xs : List AV} {s : List (List AV)} {r : AV} {s' : List (List AV)} (e : atoiT xs s = some (r, s')) : ACalls Tryd.prog W0.heap.size W0 34 xs s r s' := by
  unfold atoiT at e
  split at e
  · rename_i l
    obtain ⟨hn, e⟩ := need_eq e
    have key : ∀ r0, some (r0, s) = some (r, s') → (∀ (w : World) (a : ByteArray), a.data.toList = l → Below W0.heap.size W0 w → Calls Tryd.prog 34 #[.string a] w fun e w' => ∃ v, e = .returned v ∧ AI.Told v r0 ∧ Below w.heap.size w w') → ACalls Tryd.prog W0.heap.size W0 34 [.str l] s r s' := by
      intro r0 e0 hc
      simp only [Option.some.injEq, Prod.mk.injEq] at e0
      obtain ⟨rfl, rfl⟩ := e0
      refine ACalls_ext fun w vs hsz hW hr => ?_
      obtain ⟨v, rfl, _⟩ := one_arg (B := 0) (T0 := fun _ => True) (μ0 := gh0) (w0 := w) (N := 1) (μ := gh0) (lx := fun _ => none) (w := w) (x := .nilp) (s := []) hsz
      obtain ⟨μ, h0⟩ := hr 0 (.str l) rfl
      obtain ⟨a, rfl, ha⟩ := rep_str (h0.resolve_right (by simp [isTup]))
      exact hc w a ha hW
    rcases hq : Lib.atoiAll l with v | _ | _
    · skip
      rw [hq] at e
      refine key _ e fun w a ha hW => ?_
      subst ha
      refine (Any.strconv_Atoi_ok lays_LaysC_n172 a (by simp at hn; omega) v hq w).mono ?_
      rintro e w' ⟨rfl, hw⟩
      refine ⟨_, rfl, AI.Told.intNil _, ?_⟩
      rcases hw with rfl | ⟨t, rfl⟩
      · exact Below.refl _ _
      · exact Go.Joins.below_bytesWorld _ _ _ _ (Nat.le_refl _)
    · skip
      rw [hq] at e
      refine key _ e fun w a ha hW => ?_
      subst ha
      obtain ⟨ev, h1, h2⟩ := hl.esyn.below hW
      refine (Any.strconv_Atoi_syntax lays_LaysC_n172 a (by simpa using hn) hq ev w h1 h2).mono ?_
      rintro e w' ⟨N, rfl, _, _, hb⟩
      exact ⟨_, rfl, AI.Told.intErr _ _ _, hb⟩
    · skip
      rw [hq] at e
      refine key _ e fun w a ha hW => ?_
      subst ha
      obtain ⟨ev, h1, h2⟩ := hl.eran.below hW
      refine (Any.strconv_Atoi_range lays_LaysC_n172 a (by simpa using hn) hq ev w h1 h2).mono ?_
      rintro e w' ⟨N, rfl, _, _, hb⟩
      exact ⟨_, rfl, AI.Told.intErr _ _ _, hb⟩
  · cases e
noncomputable def replaceAllT : List AV → List (List AV) → Option (AV × List (List AV))
  | [.str l, .str o, .str n], s => need (l.length ≤ 4000000000 ∧ 1 ≤ o.length ∧ n.length ≤ 16384) (some (.str (Lib.replaceAll l o n), s))
  | _, _ => none
theorem three_args {vs : Array Value} (h : vs.size = 3) : ∃ u v w, vs = #[u, v, w] := by
  obtain ⟨l⟩ := vs
  match l, h with
  | [u, v, w], _ => exact ⟨u, v, w, rfl⟩
theorem replaceAll_ok {W0 : World} (hl : LaidAll W0) {xs : List AV} {s : List (List AV)} {r : AV} {s' : List (List AV)} (e : replaceAllT xs s = some (r, s')) : ACalls Tryd.prog W0.heap.size W0 22 xs s r s' := by
  unfold replaceAllT at e
  split at e
  · rename_i l o n
    obtain ⟨⟨hn, ho, hnn⟩, e⟩ := need_eq e
    simp only [Option.some.injEq, Prod.mk.injEq] at e
    obtain ⟨rfl, rfl⟩ := e
    refine ACalls_ext fun w vs hsz hW hr => ?_
    obtain ⟨u, v, x, rfl⟩ := three_args (vs := vs) hsz
    obtain ⟨μ, h0⟩ := hr 0 (.str l) rfl
    obtain ⟨μ', h1⟩ := hr 1 (.str o) rfl
    obtain ⟨μ'', h2⟩ := hr 2 (.str n) rfl
    obtain ⟨a, rfl, rfl⟩ := rep_str (h0.resolve_right (by simp [isTup]))
    obtain ⟨b, rfl, rfl⟩ := rep_str (h1.resolve_right (by simp [isTup]))
    obtain ⟨c, rfl, rfl⟩ := rep_str (h2.resolve_right (by simp [isTup]))
    obtain ⟨k, hk⟩ := hl.max.below hW
    have hcnt : Lib.countB a b ≤ a.size := Lib.countB_le b (by simpa using ho) a.size a (Nat.le_refl _)
    have hmul : Lib.countB a b * c.size ≤ 4000000000 * 16384 := Nat.mul_le_mul (by simp at hn; omega) (by simpa using hnn)
    refine (Any.strings_ReplaceAll lays_Lays_n155 lays_Builder_Extra a b c k w (by simp at hn; omega) hk (by simpa using ho) (by simp at hn; omega)).mono ?_
    rintro e w' ⟨rfl, hb⟩
    exact ⟨_, rfl, AI.Told.str _, hb⟩
  · cases e
noncomputable def repeatT : List AV → List (List AV) → Option (AV × List (List AV))
  | [.str l, .int .i64 n], s => need (0 ≤ n ∧ n ≤ 9223372036854775807 ∧ l.length * n.toNat ≤ 140737488355328) (some (.str (Lib.repeatL l n.toNat), s))
  | _, _ => none
theorem repeat_ok {B : Nat} {W0 : World} {xs : List AV} {s : List (List AV)} {r : AV} {s' : List (List AV)} (e : repeatT xs s = some (r, s')) : ACalls Tryd.prog B W0 30 xs s r s' := by
  unfold repeatT at e
  split at e
  · rename_i l n
    obtain ⟨⟨h1, h2, h3⟩, e⟩ := need_eq e
    simp only [Option.some.injEq, Prod.mk.injEq] at e
    obtain ⟨rfl, rfl⟩ := e
    obtain ⟨c, rfl⟩ := Int.eq_ofNat_of_zero_le h1
    refine ACalls_ext fun w vs hsz hW hr => ?_
    obtain ⟨u, v, rfl⟩ := two_args (vs := vs) hsz
    obtain ⟨μ, h0⟩ := hr 0 (.str l) rfl
    obtain ⟨μ', h1⟩ := hr 1 (.int .i64 c) rfl
    obtain ⟨a, rfl, rfl⟩ := rep_str (h0.resolve_right (by simp [isTup]))
    obtain rfl := rep_int (h1.resolve_right (by simp [isTup]))
    refine (Any.strings_Repeat lays_Lays_n105 lays_Builder_Extra a c w (by omega) (by simpa using h3)).mono ?_
    rintro e w' ⟨rfl, hb⟩
    exact ⟨_, rfl, by simpa using AI.Told.str (Lib.repeatL a.data.toList c), hb⟩
  · cases e
/-- parts that hang on no memory -/
theorem told_tup {vs : List Value} {cs : List AV} (hl : vs.length = cs.length) (h : ∀ (j : Nat) (c : AV), cs[j]? = some c → scal c = true ∧ ∀ (B : Nat) (μ : Gh) (w : World), Rep B μ w ((vs.toArray).getD j undef) c) : AI.Told (.tuple vs.toArray) (.tup cs) := by
  refine ⟨fun B μ w => ⟨.tup _ _ (by simpa using hl) fun j c hc => (h j c hc).2 B μ w, fun j c hc => ?_⟩, fun j => ?_, by simp⟩
  · have := (h j c hc).1
    cases c <;> first | trivial | (simp [scal] at this; done)
  · cases j with
    | none => rfl
    | some j =>
      simp only [ownV]
      cases hc : cs[j]? with
      | none => rfl
      | some c =>
        have := (h j c hc).1
        simp only [Option.bind_some]
        cases c <;> first | (simp [scal] at this; done) | (simp [exBlk]; done) | rfl
theorem rep_list (l : List UInt8) (B : Nat) (μ : Gh) (w : World) : Rep B μ w (.string ⟨l.toArray⟩) (.str l) := by
  have := Rep.str (B := B) (μ := μ) (w := w) ⟨l.toArray⟩; simpa using this
theorem told_ssb (a b : List UInt8) (c : Bool) : AI.Told (.tuple #[.string ⟨a.toArray⟩, .string ⟨b.toArray⟩, .bool c]) (.tup [.str a, .str b, .bool c]) :=
  told_tup (vs := [.string ⟨a.toArray⟩, .string ⟨b.toArray⟩, .bool c]) rfl fun j x hx => by
    match j, hx with
    | 0, hx => simp at hx; subst hx; exact ⟨rfl, rep_list a⟩
    | 1, hx => simp at hx; subst hx; exact ⟨rfl, rep_list b⟩
    | 2, hx => simp at hx; subst hx; exact ⟨rfl, fun _ _ _ => .bool _⟩
    | j + 3, hx => simp at hx
theorem told_sb (a : List UInt8) (c : Bool) : AI.Told (.tuple #[.string ⟨a.toArray⟩, .bool c]) (.tup [.str a, .bool c]) :=
  told_tup (vs := [.string ⟨a.toArray⟩, .bool c]) rfl fun j x hx => by
    match j, hx with
    | 0, hx => simp at hx; subst hx; exact ⟨rfl, rep_list a⟩
    | 1, hx => simp at hx; subst hx; exact ⟨rfl, fun _ _ _ => .bool _⟩
    | j + 2, hx => simp at hx
/-- a function of two texts, by a contract -/
theorem ACalls_two {B : Nat} {W0 : World} {f : FuncId} {l m : List UInt8} {s : List (List AV)} {r : AV}
    (h : ∀ (w : World) (a b : ByteArray), a.data.toList = l → b.data.toList = m → Below B W0 w → Calls Tryd.prog f #[.string a, .string b] w fun e w' => ∃ v, e = .returned v ∧ AI.Told v r ∧ Below w.heap.size w w') : ACalls Tryd.prog B W0 f [.str l, .str m] s r s := by
  refine ACalls_ext fun w vs hsz hW hr => ?_
  obtain ⟨u, v, rfl⟩ := two_args (vs := vs) hsz
  obtain ⟨μ, h0⟩ := hr 0 (.str l) rfl
  obtain ⟨μ', h1⟩ := hr 1 (.str m) rfl
  obtain ⟨a, rfl, ha⟩ := rep_str (h0.resolve_right (by simp [isTup]))
  obtain ⟨b, rfl, hb⟩ := rep_str (h1.resolve_right (by simp [isTup]))
  exact h w a b ha hb hW
theorem bsz (m : List UInt8) : (⟨m.toArray⟩ : ByteArray).size = m.length := by show m.toArray.size = m.length; simp
theorem blw (w : World) (n : Nat) : Below w.heap.size w (w.drewN n) := ⟨rfl, rfl, rfl, Nat.le_refl _, fun _ _ => rfl⟩
noncomputable def cutT : List AV → List (List AV) → Option (AV × List (List AV))
  | [.str l, .str m], s => need (l.length < 4294967281) (some (.tup [.str (Lib.cut l m).1, .str (Lib.cut l m).2.1, .bool (Lib.cut l m).2.2], s))
  | _, _ => none
theorem cut_ok {W0 : World} (hl : LaidAll W0) {xs : List AV} {s : List (List AV)} {r : AV} {s' : List (List AV)} (e : cutT xs s = some (r, s')) : ACalls Tryd.prog W0.heap.size W0 19 xs s r s' := by
  unfold cutT at e
  split at e
  · rename_i l m
    obtain ⟨hn, e⟩ := need_eq e
    simp only [Option.some.injEq, Prod.mk.injEq] at e
    obtain ⟨rfl, rfl⟩ := e
    refine ACalls_two fun w a b ha hb hW => ?_
    subst ha hb
    obtain ⟨k, hk⟩ := hl.max.below hW
    refine (Any.strings_Cut lays_Lays_n145 a b k w (by simpa using hn) hk).mono ?_
    rintro e w' ⟨rfl, n, rfl⟩
    exact ⟨_, rfl, told_ssb _ _ _, blw w n⟩
  · cases e
noncomputable def splitT : List AV → List (List AV) → Option (AV × List (List AV))
  | [.str l, .str m], s => need (l.length < 4294967281 ∧ 1 ≤ m.length) (some (.sl (.ex 9 1) ((Lib.split l m).map .str), s))
  | _, _ => none
theorem split_ok {W0 : World} (hl : LaidAll W0) {xs : List AV} {s : List (List AV)} {r : AV} {s' : List (List AV)} (e : splitT xs s = some (r, s')) : ACalls Tryd.prog W0.heap.size W0 20 xs s r s' := by
  unfold splitT at e
  split at e
  · rename_i l m
    obtain ⟨⟨hn, h1⟩, e⟩ := need_eq e
    simp only [Option.some.injEq, Prod.mk.injEq] at e
    obtain ⟨rfl, rfl⟩ := e
    have hlen : (Lib.split l m).length = Lib.countB ⟨l.toArray⟩ ⟨m.toArray⟩ + 1 := by
      have e1 := Lib.splitB_all ⟨m.toArray⟩ (by rw [bsz]; exact h1) 0 _ ⟨l.toArray⟩ rfl
      have e2 := Lib.splitB_data ⟨m.toArray⟩ 0 (Lib.countB ⟨l.toArray⟩ ⟨m.toArray⟩) ⟨l.toArray⟩
      rw [← e1, ← List.length_map (f := fun x : ByteArray => x.data.toList), e2]
      rfl
    have hle := Lib.countB_le ⟨m.toArray⟩ (by rw [bsz]; exact h1) l.length ⟨l.toArray⟩ (by rw [bsz]; omega)
    refine ACalls_strs (by rw [bsz] at hle; rw [hlen]; unfold maxLen; omega) fun w vs hsz hW hr => ?_
    obtain ⟨u, v, rfl⟩ := two_args (vs := vs) hsz
    obtain ⟨μ, h0⟩ := hr 0 (.str l) rfl
    obtain ⟨μ', h1'⟩ := hr 1 (.str m) rfl
    obtain ⟨a, rfl, rfl⟩ := rep_str (h0.resolve_right (by simp [isTup]))
    obtain ⟨b, rfl, rfl⟩ := rep_str (h1'.resolve_right (by simp [isTup]))
    obtain ⟨k, hk⟩ := hl.max.below hW
    refine (Any.strings_Split lays_Lays_n146 (by kernel_rfl) a b k w (by simpa using hn) hk (by simpa using h1)).mono ?_
    rintro e w' ⟨rfl, rfl⟩
    have e2 := Lib.splitB_data b 0 (Lib.countB a b) a
    have e3 : Lib.split a.data.toList b.data.toList = (Lib.splitB b 0 (Lib.countB a b) a).map (·.data.toList) := by rw [e2]; rfl
    refine ⟨by rw [hlen], ?_⟩
    congr 2
    rw [e3, List.map_map]
    apply congrArg
    apply List.map_congr_left
    intro x _
    rfl
  · cases e
noncomputable def hasPrefixT : List AV → List (List AV) → Option (AV × List (List AV))
  | [.str l, .str m], s => some (.bool (Lib.hasPrefix l m), s)
  | _, _ => none
theorem hasPrefix_ok {W0 : World} {xs : List AV} {s : List (List AV)} {r : AV} {s' : List (List AV)} (e : hasPrefixT xs s = some (r, s')) : ACalls Tryd.prog W0.heap.size W0 44 xs s r s' := by
  unfold hasPrefixT at e
  split at e
  · simp only [Option.some.injEq, Prod.mk.injEq] at e
    obtain ⟨rfl, rfl⟩ := e
    refine ACalls_two fun w a b ha hb hW => ?_
    subst ha hb
    refine (Any.strings_HasPrefix lays_Lays_n99 a b w).mono ?_
    rintro e w' ⟨rfl, rfl⟩
    exact ⟨_, rfl, AI.Told.bool _, Below.refl _ _⟩
  · cases e
def strOf : AV → Option (List UInt8)
  | .str l => some l
  | _ => none
def strsOf : List AV → Option (List (List UInt8))
  | [] => some []
  | x :: r => bnd (strOf x) fun a => bnd (strsOf r) fun l => some (a :: l)
@[simp] theorem strsOf_map (l : List (List UInt8)) : strsOf (l.map .str) = some l := by
  induction l with
  | nil => rfl
  | cons x r ih => simp only [List.map_cons, strsOf, strOf, bnd_some, ih]
theorem strsOf_eq {xs : List AV} : ∀ {l : List (List UInt8)}, strsOf xs = some l → xs = l.map .str := by
  induction xs with
  | nil => intro l h; simp only [strsOf, Option.some.injEq] at h; subst h; rfl
  | cons x r ih =>
    intro l h
    simp only [strsOf] at h
    obtain ⟨a, ha, h⟩ := bnd_eq h
    obtain ⟨b, hb, h⟩ := bnd_eq h
    simp only [Option.some.injEq] at h
    subst h
    cases x with
    | str y => simp only [strOf, Option.some.injEq] at ha; subst ha; rw [ih hb]; rfl
    | _ => cases ha
noncomputable def joinT : List AV → List (List AV) → Option (AV × List (List AV))
  | [.sl .sh xs, .str m], s => bnd (strsOf xs) fun ls => need (ls.length ≤ 140737488355328 ∧ (Lib.join ls m).length ≤ 140737488355328) (some (.str (Lib.join ls m), s))
  | _, _ => none
theorem join_ok {W0 : World} {xs : List AV} {s : List (List AV)} {r : AV} {s' : List (List AV)} (e : joinT xs s = some (r, s')) : ACalls Tryd.prog W0.heap.size W0 23 xs s r s' := by
  unfold joinT at e
  split at e
  · rename_i xs m
    obtain ⟨ls, hls, e⟩ := bnd_eq e
    obtain ⟨⟨hn1, hn2⟩, e⟩ := need_eq e
    simp only [Option.some.injEq, Prod.mk.injEq] at e
    obtain ⟨rfl, rfl⟩ := e
    obtain rfl := strsOf_eq hls
    refine ACalls_ext fun w vs hsz hW hr => ?_
    obtain ⟨u, v, rfl⟩ := two_args (vs := vs) hsz
    obtain ⟨μ, h0⟩ := hr 0 (.sl .sh (ls.map .str)) rfl
    obtain ⟨μ', h1⟩ := hr 1 (.str m) rfl
    obtain ⟨b, rfl, rfl⟩ := rep_str (h1.resolve_right (by simp [isTup]))
    have h0 := h0.resolve_right (by simp [isTup])
    have hu : (#[u, Value.string b] : Array Value).getD 0 undef = u := rfl
    rw [hu] at h0
    clear hu hr hsz
    generalize hxs : ls.map AV.str = xs at h0
    cases h0 with
    | slnil =>
      have : ls = [] := by simpa using hxs
      subst this
      refine (Any.strings_Join_none lays_Lays_n156 lays_Builder_Extra none 0 b w).mono ?_
      rintro e w' ⟨rfl, rfl⟩
      exact ⟨_, rfl, by simpa [Lib.join] using AI.Told.str [], Below.refl _ _⟩
    | sl0 a cap =>
      have : ls = [] := by simpa using hxs
      subst this
      refine (Any.strings_Join_none lays_Lays_n156 lays_Builder_Extra (some a) cap b w).mono ?_
      rintro e w' ⟨rfl, rfl⟩
      exact ⟨_, rfl, by simpa [Lib.join] using AI.Told.str [], Below.refl _ _⟩
    | sl blk off cap sz _ _ f ho hsz hc hm hu hcell hrep =>
      have hlen : xs.length = ls.length := by rw [← hxs, List.length_map]
      by_cases hne : ls = []
      · subst hne
        have : xs = [] := by simpa using hxs.symm
        subst this
        refine (Any.strings_Join_none lays_Lays_n156 lays_Builder_Extra _ cap b w).mono ?_
        rintro e w' ⟨rfl, rfl⟩
        exact ⟨_, rfl, by simpa [Lib.join] using AI.Told.str [], Below.refl _ _⟩
      have hs1 : sz = 1 := by
        cases hl : ls with
        | nil => exact absurd hl hne
        | cons x r =>
          have := (hu (.str x) (by rw [← hxs, hl]; simp)).1
          simpa [AV.cells] using this.symm
      subst hs1
      have hcells : ∀ (j : Nat) (x : List UInt8), ls[j]? = some x → w.cell? ⟨blk, off + j, none⟩ = some (.string ⟨x.toArray⟩) := by
        intro j x hx
        have hj : j < ls.length := (List.getElem?_eq_some_iff.1 hx).1
        have h1 := (hcell j (by omega)).1
        have h2 := hrep j 0 (.str x) (by rw [← hxs, List.getElem?_map, hx]; rfl)
        rw [Nat.mul_one, Nat.add_zero] at h2
        obtain ⟨a, ha, hax⟩ := rep_str h2
        rw [h1, ha, ← hax]
      have hblk : blk < w.heap.size := by
        have h0 : 0 < xs.length * 1 := by rw [hlen, Nat.mul_one]; exact List.length_pos_iff.2 hne
        exact World.block_lt_of_cell? w _ (hcell 0 h0).1
      clear e hls h0 hne h1
      rcases ls with _ | ⟨x, _ | ⟨y, r⟩⟩
      · have hx1 : xs.length = 0 := by rw [hlen]; rfl
        rw [hx1]
        refine (Any.strings_Join_none lays_Lays_n156 lays_Builder_Extra _ cap b w).mono ?_
        rintro e w' ⟨rfl, rfl⟩
        exact ⟨_, rfl, by simpa [Lib.join] using AI.Told.str [], Below.refl _ _⟩
      · have := hcells 0 x rfl
        have hx1 : xs.length = 1 := by rw [hlen]; rfl
        rw [hx1]
        refine (Any.strings_Join_one lays_Lays_n156 lays_Builder_Extra blk off cap ⟨x.toArray⟩ b w this).mono ?_
        rintro e w' ⟨rfl, rfl⟩
        exact ⟨_, rfl, by rw [Lib.join_one]; exact AI.Told.str x, Below.refl _ _⟩
      · have e1 : ((x :: y :: r).map fun l : List UInt8 => (⟨l.toArray⟩ : ByteArray)).map (·.data.toList) = x :: y :: r := by
          rw [List.map_map]; conv => rhs; rw [← List.map_id (x :: y :: r)]
          apply List.map_congr_left; intro z _; simp
        have hx1 : xs.length = ((x :: y :: r).map fun l : List UInt8 => (⟨l.toArray⟩ : ByteArray)).length := by rw [hlen]; simp
        rw [hx1]
        refine (Any.strings_Join_many lays_Lays_n156 lays_Builder_Extra blk off cap ((x :: y :: r).map fun l : List UInt8 => (⟨l.toArray⟩ : ByteArray)) b w ?_ hblk (by simp) (by rw [List.length_map]; exact hn1) (by rw [← hx1]; exact hc) (by rw [e1]; exact hn2)).mono ?_
        · intro j z hz
          rw [List.getElem?_map] at hz
          cases hq : (x :: y :: r)[j]? with
          | none => rw [hq] at hz; cases hz
          | some l => rw [hq] at hz; injection hz with hz; subst hz; exact hcells j l hq
        · rintro e w' ⟨rfl, hb⟩
          refine ⟨_, rfl, ?_, hb⟩
          rw [e1]; exact AI.Told.str _
  · cases e
end Go.Proofs.Tryd.Ai
end
section
namespace Go.Proofs.Tryd.Ai
open Go Go.AI Go.Proofs
@[simp] theorem size2 : sizeA Tryd.prog 2 = some 1 := by kernel_rfl
@[simp] theorem bytes2 : bytesA Tryd.prog 2 = some 8 := by kernel_rfl
@[simp] theorem agg2 : isAggA Tryd.prog 2 = some false := by kernel_rfl
@[simp] theorem elem2 : elemA Tryd.prog 2 = none := by kernel_rfl
@[simp] theorem zero2 : zeroA Tryd.prog 2 = some (.int .i64 0) := by kernel_rfl
@[simp] theorem und2 : Tryd.prog.underlying 2 = some (.int .i64) := by kernel_rfl
@[simp] theorem size3 : sizeA Tryd.prog 3 = some 1 := by kernel_rfl
@[simp] theorem bytes3 : bytesA Tryd.prog 3 = some 8 := by kernel_rfl
@[simp] theorem agg3 : isAggA Tryd.prog 3 = some false := by kernel_rfl
@[simp] theorem elem3 : elemA Tryd.prog 3 = none := by kernel_rfl
@[simp] theorem zero3 : zeroA Tryd.prog 3 = some (.int .i64 0) := by kernel_rfl
@[simp] theorem und3 : Tryd.prog.underlying 3 = some (.int .i64) := by kernel_rfl
@[simp] theorem size4 : sizeA Tryd.prog 4 = some 1 := by kernel_rfl
@[simp] theorem bytes4 : bytesA Tryd.prog 4 = some 1 := by kernel_rfl
@[simp] theorem agg4 : isAggA Tryd.prog 4 = some false := by kernel_rfl
@[simp] theorem elem4 : elemA Tryd.prog 4 = none := by kernel_rfl
@[simp] theorem zero4 : zeroA Tryd.prog 4 = some (.bool false) := by kernel_rfl
@[simp] theorem und4 : Tryd.prog.underlying 4 = some .bool := by kernel_rfl
@[simp] theorem size5 : sizeA Tryd.prog 5 = some 1 := by kernel_rfl
@[simp] theorem bytes5 : bytesA Tryd.prog 5 = some 1 := by kernel_rfl
@[simp] theorem agg5 : isAggA Tryd.prog 5 = some false := by kernel_rfl
@[simp] theorem elem5 : elemA Tryd.prog 5 = none := by kernel_rfl
@[simp] theorem zero5 : zeroA Tryd.prog 5 = some (.int .u8 0) := by kernel_rfl
@[simp] theorem und5 : Tryd.prog.underlying 5 = some (.int .u8) := by kernel_rfl
@[simp] theorem size9 : sizeA Tryd.prog 9 = some 1 := by kernel_rfl
@[simp] theorem bytes9 : bytesA Tryd.prog 9 = some 16 := by kernel_rfl
@[simp] theorem agg9 : isAggA Tryd.prog 9 = some false := by kernel_rfl
@[simp] theorem elem9 : elemA Tryd.prog 9 = none := by kernel_rfl
@[simp] theorem zero9 : zeroA Tryd.prog 9 = some (.str []) := by kernel_rfl
@[simp] theorem und9 : Tryd.prog.underlying 9 = some .string := by kernel_rfl
@[simp] theorem size20 : sizeA Tryd.prog 20 = some 1 := by kernel_rfl
@[simp] theorem bytes20 : bytesA Tryd.prog 20 = some 16 := by kernel_rfl
@[simp] theorem agg20 : isAggA Tryd.prog 20 = some false := by kernel_rfl
@[simp] theorem elem20 : elemA Tryd.prog 20 = none := by kernel_rfl
@[simp] theorem zero20 : zeroA Tryd.prog 20 = some .nili := by kernel_rfl
@[simp] theorem size21 : sizeA Tryd.prog 21 = some 1 := by kernel_rfl
@[simp] theorem bytes21 : bytesA Tryd.prog 21 = some 4 := by kernel_rfl
@[simp] theorem agg21 : isAggA Tryd.prog 21 = some false := by kernel_rfl
@[simp] theorem elem21 : elemA Tryd.prog 21 = none := by kernel_rfl
@[simp] theorem zero21 : zeroA Tryd.prog 21 = some (.int .i32 0) := by kernel_rfl
@[simp] theorem und21 : Tryd.prog.underlying 21 = some (.int .i32) := by kernel_rfl
@[simp] theorem size23 : sizeA Tryd.prog 23 = some 1 := by kernel_rfl
@[simp] theorem bytes23 : bytesA Tryd.prog 23 = some 24 := by kernel_rfl
@[simp] theorem agg23 : isAggA Tryd.prog 23 = some false := by kernel_rfl
@[simp] theorem elem23 : elemA Tryd.prog 23 = some 32 := by kernel_rfl
@[simp] theorem zero23 : zeroA Tryd.prog 23 = some (.sl .nil []) := by kernel_rfl
@[simp] theorem und23 : Tryd.prog.underlying 23 = some (.slice 32) := by kernel_rfl
@[simp] theorem size24 : sizeA Tryd.prog 24 = some 1 := by kernel_rfl
@[simp] theorem bytes24 : bytesA Tryd.prog 24 = some 8 := by kernel_rfl
@[simp] theorem agg24 : isAggA Tryd.prog 24 = some false := by kernel_rfl
@[simp] theorem elem24 : elemA Tryd.prog 24 = none := by kernel_rfl
@[simp] theorem zero24 : zeroA Tryd.prog 24 = some (.int .i64 0) := by kernel_rfl
@[simp] theorem und24 : Tryd.prog.underlying 24 = some (.int .i64) := by kernel_rfl
@[simp] theorem size28 : sizeA Tryd.prog 28 = some 1 := by kernel_rfl
@[simp] theorem bytes28 : bytesA Tryd.prog 28 = some 24 := by kernel_rfl
@[simp] theorem agg28 : isAggA Tryd.prog 28 = some false := by kernel_rfl
@[simp] theorem elem28 : elemA Tryd.prog 28 = some 9 := by kernel_rfl
@[simp] theorem zero28 : zeroA Tryd.prog 28 = some (.sl .nil []) := by kernel_rfl
@[simp] theorem und28 : Tryd.prog.underlying 28 = some (.slice 9) := by kernel_rfl
@[simp] theorem size32 : sizeA Tryd.prog 32 = some 4 := by kernel_rfl
@[simp] theorem bytes32 : bytesA Tryd.prog 32 = some 32 := by kernel_rfl
@[simp] theorem agg32 : isAggA Tryd.prog 32 = some true := by kernel_rfl
@[simp] theorem elem32 : elemA Tryd.prog 32 = none := by kernel_rfl
@[simp] theorem zero32 : zeroA Tryd.prog 32 = some (.agg [(.int .i64 0), (.int .i64 0), (.int .i64 0), (.int .i64 0)]) := by kernel_rfl
@[simp] theorem bpl32 : buildPl Tryd.prog 32 = some (fun i => [(0, 1), (1, 1), (2, 1), (3, 1)][i]?) := by kernel_rfl
@[simp] theorem size38 : sizeA Tryd.prog 38 = some 1 := by kernel_rfl
@[simp] theorem bytes38 : bytesA Tryd.prog 38 = some 24 := by kernel_rfl
@[simp] theorem agg38 : isAggA Tryd.prog 38 = some false := by kernel_rfl
@[simp] theorem elem38 : elemA Tryd.prog 38 = some 5 := by kernel_rfl
@[simp] theorem zero38 : zeroA Tryd.prog 38 = some (.sl .nil []) := by kernel_rfl
@[simp] theorem und38 : Tryd.prog.underlying 38 = some (.slice 5) := by kernel_rfl
@[simp] theorem size54 : sizeA Tryd.prog 54 = some 1 := by kernel_rfl
@[simp] theorem bytes54 : bytesA Tryd.prog 54 = some 8 := by kernel_rfl
@[simp] theorem agg54 : isAggA Tryd.prog 54 = some false := by kernel_rfl
@[simp] theorem elem54 : elemA Tryd.prog 54 = none := by kernel_rfl
@[simp] theorem zero54 : zeroA Tryd.prog 54 = some .nilp := by kernel_rfl
@[simp] theorem size56 : sizeA Tryd.prog 56 = some 2 := by kernel_rfl
@[simp] theorem bytes56 : bytesA Tryd.prog 56 = some 32 := by kernel_rfl
@[simp] theorem agg56 : isAggA Tryd.prog 56 = some true := by kernel_rfl
@[simp] theorem elem56 : elemA Tryd.prog 56 = none := by kernel_rfl
@[simp] theorem zero56 : zeroA Tryd.prog 56 = some (.agg [.nilp, (.sl .nil [])]) := by kernel_rfl
@[simp] theorem bpl56 : buildPl Tryd.prog 56 = some (fun i => [(0, 1), (1, 1)][i]?) := by kernel_rfl
@[simp] theorem size58 : sizeA Tryd.prog 58 = some 1 := by kernel_rfl
@[simp] theorem bytes58 : bytesA Tryd.prog 58 = some 16 := by kernel_rfl
@[simp] theorem agg58 : isAggA Tryd.prog 58 = some false := by kernel_rfl
@[simp] theorem elem58 : elemA Tryd.prog 58 = none := by kernel_rfl
@[simp] theorem zero58 : zeroA Tryd.prog 58 = some .nili := by kernel_rfl
@[simp] theorem size68 : sizeA Tryd.prog 68 = some 1 := by kernel_rfl
@[simp] theorem bytes68 : bytesA Tryd.prog 68 = some 8 := by kernel_rfl
@[simp] theorem agg68 : isAggA Tryd.prog 68 = some false := by kernel_rfl
@[simp] theorem elem68 : elemA Tryd.prog 68 = none := by kernel_rfl
@[simp] theorem zero68 : zeroA Tryd.prog 68 = some .nilp := by kernel_rfl
@[simp] theorem size69 : sizeA Tryd.prog 69 = some 1 := by kernel_rfl
@[simp] theorem bytes69 : bytesA Tryd.prog 69 = some 4 := by kernel_rfl
@[simp] theorem agg69 : isAggA Tryd.prog 69 = some false := by kernel_rfl
@[simp] theorem elem69 : elemA Tryd.prog 69 = none := by kernel_rfl
@[simp] theorem zero69 : zeroA Tryd.prog 69 = some (.int .u32 0) := by kernel_rfl
@[simp] theorem und69 : Tryd.prog.underlying 69 = some (.int .u32) := by kernel_rfl
@[simp] theorem size70 : sizeA Tryd.prog 70 = some 64 := by kernel_rfl
@[simp] theorem bytes70 : bytesA Tryd.prog 70 = some 256 := by kernel_rfl
@[simp] theorem agg70 : isAggA Tryd.prog 70 = some true := by kernel_rfl
@[simp] theorem elem70 : elemA Tryd.prog 70 = none := by kernel_rfl
@[simp] theorem zero70 : zeroA Tryd.prog 70 = some (.agg (List.replicate 64 (.int .u32 0))) := by kernel_rfl
@[simp] theorem bpl70 : buildPl Tryd.prog 70 = some (fun i => some (i * 1, 1)) := by kernel_rfl
@[simp] theorem und70 : Tryd.prog.underlying 70 = some (.array 64 69) := by kernel_rfl
@[simp] theorem size73 : sizeA Tryd.prog 73 = some 8 := by kernel_rfl
@[simp] theorem bytes73 : bytesA Tryd.prog 73 = some 32 := by kernel_rfl
@[simp] theorem agg73 : isAggA Tryd.prog 73 = some true := by kernel_rfl
@[simp] theorem elem73 : elemA Tryd.prog 73 = none := by kernel_rfl
@[simp] theorem zero73 : zeroA Tryd.prog 73 = some (.agg [(.int .u32 0), (.int .u32 0), (.int .u32 0), (.int .u32 0), (.int .u32 0), (.int .u32 0), (.int .u32 0), (.int .u32 0)]) := by kernel_rfl
@[simp] theorem bpl73 : buildPl Tryd.prog 73 = some (fun i => some (i * 1, 1)) := by kernel_rfl
@[simp] theorem und73 : Tryd.prog.underlying 73 = some (.array 8 69) := by kernel_rfl
@[simp] theorem size76 : sizeA Tryd.prog 76 = some 1 := by kernel_rfl
@[simp] theorem bytes76 : bytesA Tryd.prog 76 = some 8 := by kernel_rfl
@[simp] theorem agg76 : isAggA Tryd.prog 76 = some false := by kernel_rfl
@[simp] theorem elem76 : elemA Tryd.prog 76 = none := by kernel_rfl
@[simp] theorem zero76 : zeroA Tryd.prog 76 = some .nilp := by kernel_rfl
@[simp] theorem size77 : sizeA Tryd.prog 77 = some 1 := by kernel_rfl
@[simp] theorem bytes77 : bytesA Tryd.prog 77 = some 8 := by kernel_rfl
@[simp] theorem agg77 : isAggA Tryd.prog 77 = some false := by kernel_rfl
@[simp] theorem elem77 : elemA Tryd.prog 77 = none := by kernel_rfl
@[simp] theorem zero77 : zeroA Tryd.prog 77 = some (.int .u64 0) := by kernel_rfl
@[simp] theorem und77 : Tryd.prog.underlying 77 = some (.int .u64) := by kernel_rfl
@[simp] theorem size88 : sizeA Tryd.prog 88 = some 1 := by kernel_rfl
@[simp] theorem bytes88 : bytesA Tryd.prog 88 = some 8 := by kernel_rfl
@[simp] theorem agg88 : isAggA Tryd.prog 88 = some false := by kernel_rfl
@[simp] theorem elem88 : elemA Tryd.prog 88 = none := by kernel_rfl
@[simp] theorem zero88 : zeroA Tryd.prog 88 = some .nilp := by kernel_rfl
@[simp] theorem size94 : sizeA Tryd.prog 94 = some 1 := by kernel_rfl
@[simp] theorem bytes94 : bytesA Tryd.prog 94 = some 8 := by kernel_rfl
@[simp] theorem agg94 : isAggA Tryd.prog 94 = some false := by kernel_rfl
@[simp] theorem elem94 : elemA Tryd.prog 94 = none := by kernel_rfl
@[simp] theorem zero94 : zeroA Tryd.prog 94 = some (.int .u64 0) := by kernel_rfl
@[simp] theorem und94 : Tryd.prog.underlying 94 = some (.int .u64) := by kernel_rfl
@[simp] theorem size97 : sizeA Tryd.prog 97 = some 24 := by kernel_rfl
@[simp] theorem bytes97 : bytesA Tryd.prog 97 = some 24 := by kernel_rfl
@[simp] theorem agg97 : isAggA Tryd.prog 97 = some true := by kernel_rfl
@[simp] theorem elem97 : elemA Tryd.prog 97 = none := by kernel_rfl
@[simp] theorem zero97 : zeroA Tryd.prog 97 = some (.agg (List.replicate 24 (.int .u8 0))) := by kernel_rfl
@[simp] theorem bpl97 : buildPl Tryd.prog 97 = some (fun i => some (i * 1, 1)) := by kernel_rfl
@[simp] theorem und97 : Tryd.prog.underlying 97 = some (.array 24 5) := by kernel_rfl
@[simp] theorem size103 : sizeA Tryd.prog 103 = some 1 := by kernel_rfl
@[simp] theorem bytes103 : bytesA Tryd.prog 103 = some 8 := by kernel_rfl
@[simp] theorem agg103 : isAggA Tryd.prog 103 = some false := by kernel_rfl
@[simp] theorem elem103 : elemA Tryd.prog 103 = none := by kernel_rfl
@[simp] theorem zero103 : zeroA Tryd.prog 103 = some (.int .i64 0) := by kernel_rfl
@[simp] theorem und103 : Tryd.prog.underlying 103 = some (.int .i64) := by kernel_rfl
@[simp] theorem size106 : sizeA Tryd.prog 106 = some 1 := by kernel_rfl
@[simp] theorem bytes106 : bytesA Tryd.prog 106 = some 8 := by kernel_rfl
@[simp] theorem agg106 : isAggA Tryd.prog 106 = some false := by kernel_rfl
@[simp] theorem elem106 : elemA Tryd.prog 106 = none := by kernel_rfl
@[simp] theorem zero106 : zeroA Tryd.prog 106 = some .nilp := by kernel_rfl
@[simp] theorem size111 : sizeA Tryd.prog 111 = some 20 := by kernel_rfl
@[simp] theorem bytes111 : bytesA Tryd.prog 111 = some 160 := by kernel_rfl
@[simp] theorem agg111 : isAggA Tryd.prog 111 = some true := by kernel_rfl
@[simp] theorem elem111 : elemA Tryd.prog 111 = none := by kernel_rfl
@[simp] theorem zero111 : zeroA Tryd.prog 111 = some (.agg (List.replicate 20 (.int .u64 0))) := by kernel_rfl
@[simp] theorem bpl111 : buildPl Tryd.prog 111 = some (fun i => some (i * 1, 1)) := by kernel_rfl
@[simp] theorem und111 : Tryd.prog.underlying 111 = some (.array 20 94) := by kernel_rfl
@[simp] theorem size112 : sizeA Tryd.prog 112 = some 65 := by kernel_rfl
@[simp] theorem bytes112 : bytesA Tryd.prog 112 = some 65 := by kernel_rfl
@[simp] theorem agg112 : isAggA Tryd.prog 112 = some true := by kernel_rfl
@[simp] theorem elem112 : elemA Tryd.prog 112 = none := by kernel_rfl
@[simp] theorem bpl112 : buildPl Tryd.prog 112 = some (fun i => some (i * 1, 1)) := by kernel_rfl
@[simp] theorem und112 : Tryd.prog.underlying 112 = some (.array 65 5) := by kernel_rfl
@[simp] theorem size119 : sizeA Tryd.prog 119 = some 3 := by kernel_rfl
@[simp] theorem bytes119 : bytesA Tryd.prog 119 = some 48 := by kernel_rfl
@[simp] theorem agg119 : isAggA Tryd.prog 119 = some true := by kernel_rfl
@[simp] theorem elem119 : elemA Tryd.prog 119 = none := by kernel_rfl
@[simp] theorem zero119 : zeroA Tryd.prog 119 = some (.agg [(.str []), (.str []), .nili]) := by kernel_rfl
@[simp] theorem bpl119 : buildPl Tryd.prog 119 = some (fun i => [(0, 1), (1, 1), (2, 1)][i]?) := by kernel_rfl
@[simp] theorem size121 : sizeA Tryd.prog 121 = some 256 := by kernel_rfl
@[simp] theorem bytes121 : bytesA Tryd.prog 121 = some 256 := by kernel_rfl
@[simp] theorem agg121 : isAggA Tryd.prog 121 = some true := by kernel_rfl
@[simp] theorem elem121 : elemA Tryd.prog 121 = none := by kernel_rfl
@[simp] theorem bpl121 : buildPl Tryd.prog 121 = some (fun i => some (i * 1, 1)) := by kernel_rfl
@[simp] theorem und121 : Tryd.prog.underlying 121 = some (.array 256 5) := by kernel_rfl
@[simp] theorem size123 : sizeA Tryd.prog 123 = some 2 := by kernel_rfl
@[simp] theorem bytes123 : bytesA Tryd.prog 123 = some 2 := by kernel_rfl
@[simp] theorem agg123 : isAggA Tryd.prog 123 = some true := by kernel_rfl
@[simp] theorem elem123 : elemA Tryd.prog 123 = none := by kernel_rfl
@[simp] theorem zero123 : zeroA Tryd.prog 123 = some (.agg [(.int .u8 0), (.int .u8 0)]) := by kernel_rfl
@[simp] theorem bpl123 : buildPl Tryd.prog 123 = some (fun i => [(0, 1), (1, 1)][i]?) := by kernel_rfl
@[simp] theorem size124 : sizeA Tryd.prog 124 = some 32 := by kernel_rfl
@[simp] theorem bytes124 : bytesA Tryd.prog 124 = some 32 := by kernel_rfl
@[simp] theorem agg124 : isAggA Tryd.prog 124 = some true := by kernel_rfl
@[simp] theorem elem124 : elemA Tryd.prog 124 = none := by kernel_rfl
@[simp] theorem zero124 : zeroA Tryd.prog 124 = some (.agg (List.replicate 32 (.int .u8 0))) := by kernel_rfl
@[simp] theorem bpl124 : buildPl Tryd.prog 124 = some (fun i => some (i * 2, 2)) := by kernel_rfl
@[simp] theorem und124 : Tryd.prog.underlying 124 = some (.array 16 123) := by kernel_rfl
@[simp] theorem size128 : sizeA Tryd.prog 128 = some 1 := by kernel_rfl
@[simp] theorem bytes128 : bytesA Tryd.prog 128 = some 8 := by kernel_rfl
@[simp] theorem agg128 : isAggA Tryd.prog 128 = some false := by kernel_rfl
@[simp] theorem elem128 : elemA Tryd.prog 128 = none := by kernel_rfl
@[simp] theorem zero128 : zeroA Tryd.prog 128 = some .nilp := by kernel_rfl
@[simp] theorem size130 : sizeA Tryd.prog 130 = some 1 := by kernel_rfl
@[simp] theorem bytes130 : bytesA Tryd.prog 130 = some 16 := by kernel_rfl
@[simp] theorem agg130 : isAggA Tryd.prog 130 = some true := by kernel_rfl
@[simp] theorem elem130 : elemA Tryd.prog 130 = none := by kernel_rfl
@[simp] theorem zero130 : zeroA Tryd.prog 130 = some (.agg [(.str [])]) := by kernel_rfl
@[simp] theorem bpl130 : buildPl Tryd.prog 130 = some (fun i => [(0, 1)][i]?) := by kernel_rfl
@[simp] theorem size131 : sizeA Tryd.prog 131 = some 32 := by kernel_rfl
@[simp] theorem bytes131 : bytesA Tryd.prog 131 = some 32 := by kernel_rfl
@[simp] theorem agg131 : isAggA Tryd.prog 131 = some true := by kernel_rfl
@[simp] theorem elem131 : elemA Tryd.prog 131 = none := by kernel_rfl
@[simp] theorem zero131 : zeroA Tryd.prog 131 = some (.agg (List.replicate 32 (.int .u8 0))) := by kernel_rfl
@[simp] theorem bpl131 : buildPl Tryd.prog 131 = some (fun i => some (i * 1, 1)) := by kernel_rfl
@[simp] theorem und131 : Tryd.prog.underlying 131 = some (.array 32 5) := by kernel_rfl
@[simp] theorem size132 : sizeA Tryd.prog 132 = some 64 := by kernel_rfl
@[simp] theorem bytes132 : bytesA Tryd.prog 132 = some 64 := by kernel_rfl
@[simp] theorem agg132 : isAggA Tryd.prog 132 = some true := by kernel_rfl
@[simp] theorem elem132 : elemA Tryd.prog 132 = none := by kernel_rfl
@[simp] theorem zero132 : zeroA Tryd.prog 132 = some (.agg (List.replicate 64 (.int .u8 0))) := by kernel_rfl
@[simp] theorem bpl132 : buildPl Tryd.prog 132 = some (fun i => some (i * 1, 1)) := by kernel_rfl
@[simp] theorem und132 : Tryd.prog.underlying 132 = some (.array 64 5) := by kernel_rfl
@[simp] theorem field32x0 : fieldA Tryd.prog 32 0 = some (0, 3) := by kernel_rfl
@[simp] theorem field32x1 : fieldA Tryd.prog 32 1 = some (1, 3) := by kernel_rfl
@[simp] theorem field32x2 : fieldA Tryd.prog 32 2 = some (2, 3) := by kernel_rfl
@[simp] theorem field32x3 : fieldA Tryd.prog 32 3 = some (3, 3) := by kernel_rfl
@[simp] theorem field56x0 : fieldA Tryd.prog 56 0 = some (0, 54) := by kernel_rfl
@[simp] theorem field56x1 : fieldA Tryd.prog 56 1 = some (1, 38) := by kernel_rfl
@[simp] theorem field123x0 : fieldA Tryd.prog 123 0 = some (0, 5) := by kernel_rfl
@[simp] theorem field123x1 : fieldA Tryd.prog 123 1 = some (1, 5) := by kernel_rfl
@[simp] theorem iface20 : isIface Tryd.prog 20 = true := by kernel_rfl
@[simp] theorem iface58 : isIface Tryd.prog 58 = true := by kernel_rfl
@[simp] theorem eqs32 : eqShape Tryd.prog 32 = some [.int, .int, .int, .int] := by kernel_rfl
def h2 : Hint where
  vars := []
  conds := []
  steal := []
  live := []
  roots := []
  rets := true
  glob := []
  sw := []
  msd := []
  alt := []
  fz := 0
  gc := false
  wk := false
  rt := false
  inv := []
@[simp] theorem h2_vars : h2.vars = [] := rfl
@[simp] theorem h2_conds : h2.conds = [] := rfl
@[simp] theorem h2_steal : h2.steal = [] := rfl
@[simp] theorem h2_live : h2.live = [] := rfl
@[simp] theorem h2_roots : h2.roots = [] := rfl
@[simp] theorem h2_rets : h2.rets = true := rfl
@[simp] theorem h2_glob : h2.glob = [] := rfl
@[simp] theorem h2_sw : h2.sw = [] := rfl
@[simp] theorem h2_msd : h2.msd = [] := rfl
@[simp] theorem h2_alt : h2.alt = [] := rfl
@[simp] theorem h2_fz : h2.fz = 0 := rfl
@[simp] theorem h2_gc : h2.gc = false := rfl
@[simp] theorem h2_wk : h2.wk = false := rfl
@[simp] theorem h2_rt : h2.rt = false := rfl
@[simp] theorem h2_inv : h2.inv = [] := rfl
def h3 : Hint where
  vars := [0, 1, 2, 6, 7, 8, 9, 10, 11, 12, 13, 14, 15, 16, 17, 18, 19, 20, 21, 22, 23]
  conds := [39, 61, 65, 96, 104, 119, 176, 183, 189]
  steal := [25, 30, 34, 38, 40, 45, 46, 49, 53, 54, 57, 58, 66, 68, 75, 76, 80, 100, 105, 106, 109, 120, 175, 179, 184, 190, 195, 197, 198]
  live := [(14, [0, 1, 8, 10, 12, 13, 14]), (26, [0, 1, 8, 10, 12, 13, 14, 19, 20]), (34, [0, 1, 13, 21, 22, 23])]
  roots := [(17, 17)]
  rets := true
  glob := []
  sw := []
  msd := []
  alt := []
  fz := 0
  gc := false
  wk := false
  rt := false
  inv := []
@[simp] theorem h3_vars : h3.vars = [0, 1, 2, 6, 7, 8, 9, 10, 11, 12, 13, 14, 15, 16, 17, 18, 19, 20, 21, 22, 23] := rfl
@[simp] theorem h3_conds : h3.conds = [39, 61, 65, 96, 104, 119, 176, 183, 189] := rfl
@[simp] theorem h3_steal : h3.steal = [25, 30, 34, 38, 40, 45, 46, 49, 53, 54, 57, 58, 66, 68, 75, 76, 80, 100, 105, 106, 109, 120, 175, 179, 184, 190, 195, 197, 198] := rfl
@[simp] theorem h3_live : h3.live = [(14, [0, 1, 8, 10, 12, 13, 14]), (26, [0, 1, 8, 10, 12, 13, 14, 19, 20]), (34, [0, 1, 13, 21, 22, 23])] := rfl
@[simp] theorem h3_roots : h3.roots = [(17, 17)] := rfl
@[simp] theorem h3_rets : h3.rets = true := rfl
@[simp] theorem h3_glob : h3.glob = [] := rfl
@[simp] theorem h3_sw : h3.sw = [] := rfl
@[simp] theorem h3_msd : h3.msd = [] := rfl
@[simp] theorem h3_alt : h3.alt = [] := rfl
@[simp] theorem h3_fz : h3.fz = 0 := rfl
@[simp] theorem h3_gc : h3.gc = false := rfl
@[simp] theorem h3_wk : h3.wk = false := rfl
@[simp] theorem h3_rt : h3.rt = false := rfl
@[simp] theorem h3_inv : h3.inv = [] := rfl
def h4 : Hint where
  vars := [0, 1, 2, 3, 4, 5, 6, 7, 8, 9]
  conds := []
  steal := [13, 16, 17, 21, 22, 25, 26, 30, 31, 33, 34, 37, 38, 42, 43, 46, 47, 50, 51, 55, 56, 60, 61]
  live := []
  roots := []
  rets := true
  glob := []
  sw := []
  msd := []
  alt := []
  fz := 0
  gc := false
  wk := false
  rt := false
  inv := []
@[simp] theorem h4_vars : h4.vars = [0, 1, 2, 3, 4, 5, 6, 7, 8, 9] := rfl
@[simp] theorem h4_conds : h4.conds = [] := rfl
@[simp] theorem h4_steal : h4.steal = [13, 16, 17, 21, 22, 25, 26, 30, 31, 33, 34, 37, 38, 42, 43, 46, 47, 50, 51, 55, 56, 60, 61] := rfl
@[simp] theorem h4_live : h4.live = [] := rfl
@[simp] theorem h4_roots : h4.roots = [] := rfl
@[simp] theorem h4_rets : h4.rets = true := rfl
@[simp] theorem h4_glob : h4.glob = [] := rfl
@[simp] theorem h4_sw : h4.sw = [] := rfl
@[simp] theorem h4_msd : h4.msd = [] := rfl
@[simp] theorem h4_alt : h4.alt = [] := rfl
@[simp] theorem h4_fz : h4.fz = 0 := rfl
@[simp] theorem h4_gc : h4.gc = false := rfl
@[simp] theorem h4_wk : h4.wk = false := rfl
@[simp] theorem h4_rt : h4.rt = false := rfl
@[simp] theorem h4_inv : h4.inv = [] := rfl
def h5 : Hint where
  vars := [0, 1, 4, 5, 6, 7, 8]
  conds := [22, 28, 39]
  steal := [11, 15, 19, 29, 40, 42, 50]
  live := [(5, [0, 1, 6, 7]), (8, [0, 1, 6, 7, 8])]
  roots := []
  rets := true
  glob := []
  sw := []
  msd := []
  alt := []
  fz := 0
  gc := false
  wk := false
  rt := false
  inv := []
@[simp] theorem h5_vars : h5.vars = [0, 1, 4, 5, 6, 7, 8] := rfl
@[simp] theorem h5_conds : h5.conds = [22, 28, 39] := rfl
@[simp] theorem h5_steal : h5.steal = [11, 15, 19, 29, 40, 42, 50] := rfl
@[simp] theorem h5_live : h5.live = [(5, [0, 1, 6, 7]), (8, [0, 1, 6, 7, 8])] := rfl
@[simp] theorem h5_roots : h5.roots = [] := rfl
@[simp] theorem h5_rets : h5.rets = true := rfl
@[simp] theorem h5_glob : h5.glob = [] := rfl
@[simp] theorem h5_sw : h5.sw = [] := rfl
@[simp] theorem h5_msd : h5.msd = [] := rfl
@[simp] theorem h5_alt : h5.alt = [] := rfl
@[simp] theorem h5_fz : h5.fz = 0 := rfl
@[simp] theorem h5_gc : h5.gc = false := rfl
@[simp] theorem h5_wk : h5.wk = false := rfl
@[simp] theorem h5_rt : h5.rt = false := rfl
@[simp] theorem h5_inv : h5.inv = [] := rfl
def h6 : Hint where
  vars := [0, 2]
  conds := []
  steal := [3]
  live := []
  roots := []
  rets := true
  glob := []
  sw := []
  msd := []
  alt := []
  fz := 0
  gc := false
  wk := false
  rt := false
  inv := []
@[simp] theorem h6_vars : h6.vars = [0, 2] := rfl
@[simp] theorem h6_conds : h6.conds = [] := rfl
@[simp] theorem h6_steal : h6.steal = [3] := rfl
@[simp] theorem h6_live : h6.live = [] := rfl
@[simp] theorem h6_roots : h6.roots = [] := rfl
@[simp] theorem h6_rets : h6.rets = true := rfl
@[simp] theorem h6_glob : h6.glob = [] := rfl
@[simp] theorem h6_sw : h6.sw = [] := rfl
@[simp] theorem h6_msd : h6.msd = [] := rfl
@[simp] theorem h6_alt : h6.alt = [] := rfl
@[simp] theorem h6_fz : h6.fz = 0 := rfl
@[simp] theorem h6_gc : h6.gc = false := rfl
@[simp] theorem h6_wk : h6.wk = false := rfl
@[simp] theorem h6_rt : h6.rt = false := rfl
@[simp] theorem h6_inv : h6.inv = [] := rfl
def h7 : Hint where
  vars := [0, 1, 2, 3, 4, 5]
  conds := [8, 17, 44]
  steal := [18, 25, 45, 51]
  live := [(5, [1, 4, 5])]
  roots := [(27, 1), (32, 1), (39, 1), (41, 1)]
  rets := true
  glob := []
  sw := [29, 34]
  msd := []
  alt := []
  fz := 0
  gc := false
  wk := false
  rt := false
  inv := []
@[simp] theorem h7_vars : h7.vars = [0, 1, 2, 3, 4, 5] := rfl
@[simp] theorem h7_conds : h7.conds = [8, 17, 44] := rfl
@[simp] theorem h7_steal : h7.steal = [18, 25, 45, 51] := rfl
@[simp] theorem h7_live : h7.live = [(5, [1, 4, 5])] := rfl
@[simp] theorem h7_roots : h7.roots = [(27, 1), (32, 1), (39, 1), (41, 1)] := rfl
@[simp] theorem h7_rets : h7.rets = true := rfl
@[simp] theorem h7_glob : h7.glob = [] := rfl
@[simp] theorem h7_sw : h7.sw = [29, 34] := rfl
@[simp] theorem h7_msd : h7.msd = [] := rfl
@[simp] theorem h7_alt : h7.alt = [] := rfl
@[simp] theorem h7_fz : h7.fz = 0 := rfl
@[simp] theorem h7_gc : h7.gc = false := rfl
@[simp] theorem h7_wk : h7.wk = false := rfl
@[simp] theorem h7_rt : h7.rt = false := rfl
@[simp] theorem h7_inv : h7.inv = [] := rfl
def h8 : Hint where
  vars := [0, 2, 3, 4, 5, 6, 7, 8, 9, 10, 11]
  conds := [22, 47, 52, 67]
  steal := [12, 17, 18, 33, 37, 43, 52, 53, 56, 60, 61, 63, 64, 65]
  live := []
  roots := [(8, 8)]
  rets := true
  glob := []
  sw := []
  msd := []
  alt := []
  fz := 0
  gc := false
  wk := false
  rt := false
  inv := []
@[simp] theorem h8_vars : h8.vars = [0, 2, 3, 4, 5, 6, 7, 8, 9, 10, 11] := rfl
@[simp] theorem h8_conds : h8.conds = [22, 47, 52, 67] := rfl
@[simp] theorem h8_steal : h8.steal = [12, 17, 18, 33, 37, 43, 52, 53, 56, 60, 61, 63, 64, 65] := rfl
@[simp] theorem h8_live : h8.live = [] := rfl
@[simp] theorem h8_roots : h8.roots = [(8, 8)] := rfl
@[simp] theorem h8_rets : h8.rets = true := rfl
@[simp] theorem h8_glob : h8.glob = [] := rfl
@[simp] theorem h8_sw : h8.sw = [] := rfl
@[simp] theorem h8_msd : h8.msd = [] := rfl
@[simp] theorem h8_alt : h8.alt = [] := rfl
@[simp] theorem h8_fz : h8.fz = 0 := rfl
@[simp] theorem h8_gc : h8.gc = false := rfl
@[simp] theorem h8_wk : h8.wk = false := rfl
@[simp] theorem h8_rt : h8.rt = false := rfl
@[simp] theorem h8_inv : h8.inv = [] := rfl
def h9 : Hint where
  vars := [0, 1, 4, 5]
  conds := [9, 17]
  steal := [10]
  live := [(2, [0, 1, 5])]
  roots := []
  rets := true
  glob := []
  sw := []
  msd := []
  alt := []
  fz := 0
  gc := false
  wk := false
  rt := false
  inv := []
@[simp] theorem h9_vars : h9.vars = [0, 1, 4, 5] := rfl
@[simp] theorem h9_conds : h9.conds = [9, 17] := rfl
@[simp] theorem h9_steal : h9.steal = [10] := rfl
@[simp] theorem h9_live : h9.live = [(2, [0, 1, 5])] := rfl
@[simp] theorem h9_roots : h9.roots = [] := rfl
@[simp] theorem h9_rets : h9.rets = true := rfl
@[simp] theorem h9_glob : h9.glob = [] := rfl
@[simp] theorem h9_sw : h9.sw = [] := rfl
@[simp] theorem h9_msd : h9.msd = [] := rfl
@[simp] theorem h9_alt : h9.alt = [] := rfl
@[simp] theorem h9_fz : h9.fz = 0 := rfl
@[simp] theorem h9_gc : h9.gc = false := rfl
@[simp] theorem h9_wk : h9.wk = false := rfl
@[simp] theorem h9_rt : h9.rt = false := rfl
@[simp] theorem h9_inv : h9.inv = [] := rfl
def h10 : Hint where
  vars := [0, 2, 3, 5, 6, 7, 8]
  conds := [9]
  steal := [6, 16]
  live := [(3, [3, 6, 7, 8])]
  roots := []
  rets := true
  glob := [3]
  sw := []
  msd := []
  alt := []
  fz := 0
  gc := true
  wk := false
  rt := false
  inv := []
@[simp] theorem h10_vars : h10.vars = [0, 2, 3, 5, 6, 7, 8] := rfl
@[simp] theorem h10_conds : h10.conds = [9] := rfl
@[simp] theorem h10_steal : h10.steal = [6, 16] := rfl
@[simp] theorem h10_live : h10.live = [(3, [3, 6, 7, 8])] := rfl
@[simp] theorem h10_roots : h10.roots = [] := rfl
@[simp] theorem h10_rets : h10.rets = true := rfl
@[simp] theorem h10_glob : h10.glob = [3] := rfl
@[simp] theorem h10_sw : h10.sw = [] := rfl
@[simp] theorem h10_msd : h10.msd = [] := rfl
@[simp] theorem h10_alt : h10.alt = [] := rfl
@[simp] theorem h10_fz : h10.fz = 0 := rfl
@[simp] theorem h10_gc : h10.gc = true := rfl
@[simp] theorem h10_wk : h10.wk = false := rfl
@[simp] theorem h10_rt : h10.rt = false := rfl
@[simp] theorem h10_inv : h10.inv = [] := rfl
def h11 : Hint where
  vars := [0, 2]
  conds := []
  steal := [4]
  live := []
  roots := []
  rets := true
  glob := []
  sw := []
  msd := [5]
  alt := []
  fz := 0
  gc := false
  wk := false
  rt := false
  inv := []
@[simp] theorem h11_vars : h11.vars = [0, 2] := rfl
@[simp] theorem h11_conds : h11.conds = [] := rfl
@[simp] theorem h11_steal : h11.steal = [4] := rfl
@[simp] theorem h11_live : h11.live = [] := rfl
@[simp] theorem h11_roots : h11.roots = [] := rfl
@[simp] theorem h11_rets : h11.rets = true := rfl
@[simp] theorem h11_glob : h11.glob = [] := rfl
@[simp] theorem h11_sw : h11.sw = [] := rfl
@[simp] theorem h11_msd : h11.msd = [5] := rfl
@[simp] theorem h11_alt : h11.alt = [] := rfl
@[simp] theorem h11_fz : h11.fz = 0 := rfl
@[simp] theorem h11_gc : h11.gc = false := rfl
@[simp] theorem h11_wk : h11.wk = false := rfl
@[simp] theorem h11_rt : h11.rt = false := rfl
@[simp] theorem h11_inv : h11.inv = [] := rfl
def h12 : Hint where
  vars := [0, 1, 4, 5, 6]
  conds := [10]
  steal := [11, 16, 18]
  live := []
  roots := []
  rets := true
  glob := []
  sw := []
  msd := []
  alt := []
  fz := 0
  gc := false
  wk := false
  rt := false
  inv := []
@[simp] theorem h12_vars : h12.vars = [0, 1, 4, 5, 6] := rfl
@[simp] theorem h12_conds : h12.conds = [10] := rfl
@[simp] theorem h12_steal : h12.steal = [11, 16, 18] := rfl
@[simp] theorem h12_live : h12.live = [] := rfl
@[simp] theorem h12_roots : h12.roots = [] := rfl
@[simp] theorem h12_rets : h12.rets = true := rfl
@[simp] theorem h12_glob : h12.glob = [] := rfl
@[simp] theorem h12_sw : h12.sw = [] := rfl
@[simp] theorem h12_msd : h12.msd = [] := rfl
@[simp] theorem h12_alt : h12.alt = [] := rfl
@[simp] theorem h12_fz : h12.fz = 0 := rfl
@[simp] theorem h12_gc : h12.gc = false := rfl
@[simp] theorem h12_wk : h12.wk = false := rfl
@[simp] theorem h12_rt : h12.rt = false := rfl
@[simp] theorem h12_inv : h12.inv = [] := rfl
def h13 : Hint where
  vars := [0, 2, 3, 4, 5, 6, 7, 8]
  conds := [15, 19, 29]
  steal := [11, 30, 31, 32]
  live := [(4, [0, 5, 6])]
  roots := []
  rets := true
  glob := []
  sw := []
  msd := []
  alt := []
  fz := 0
  gc := false
  wk := false
  rt := false
  inv := []
@[simp] theorem h13_vars : h13.vars = [0, 2, 3, 4, 5, 6, 7, 8] := rfl
@[simp] theorem h13_conds : h13.conds = [15, 19, 29] := rfl
@[simp] theorem h13_steal : h13.steal = [11, 30, 31, 32] := rfl
@[simp] theorem h13_live : h13.live = [(4, [0, 5, 6])] := rfl
@[simp] theorem h13_roots : h13.roots = [] := rfl
@[simp] theorem h13_rets : h13.rets = true := rfl
@[simp] theorem h13_glob : h13.glob = [] := rfl
@[simp] theorem h13_sw : h13.sw = [] := rfl
@[simp] theorem h13_msd : h13.msd = [] := rfl
@[simp] theorem h13_alt : h13.alt = [] := rfl
@[simp] theorem h13_fz : h13.fz = 0 := rfl
@[simp] theorem h13_gc : h13.gc = false := rfl
@[simp] theorem h13_wk : h13.wk = false := rfl
@[simp] theorem h13_rt : h13.rt = false := rfl
@[simp] theorem h13_inv : h13.inv = [] := rfl
def h14 : Hint where
  vars := [0, 1, 2, 3, 8, 9, 10, 11]
  conds := [32]
  steal := [14, 18, 22, 26, 37, 38, 45, 46, 47, 48]
  live := []
  roots := []
  rets := true
  glob := []
  sw := []
  msd := []
  alt := []
  fz := 0
  gc := false
  wk := false
  rt := false
  inv := []
@[simp] theorem h14_vars : h14.vars = [0, 1, 2, 3, 8, 9, 10, 11] := rfl
@[simp] theorem h14_conds : h14.conds = [32] := rfl
@[simp] theorem h14_steal : h14.steal = [14, 18, 22, 26, 37, 38, 45, 46, 47, 48] := rfl
@[simp] theorem h14_live : h14.live = [] := rfl
@[simp] theorem h14_roots : h14.roots = [] := rfl
@[simp] theorem h14_rets : h14.rets = true := rfl
@[simp] theorem h14_glob : h14.glob = [] := rfl
@[simp] theorem h14_sw : h14.sw = [] := rfl
@[simp] theorem h14_msd : h14.msd = [] := rfl
@[simp] theorem h14_alt : h14.alt = [] := rfl
@[simp] theorem h14_fz : h14.fz = 0 := rfl
@[simp] theorem h14_gc : h14.gc = false := rfl
@[simp] theorem h14_wk : h14.wk = false := rfl
@[simp] theorem h14_rt : h14.rt = false := rfl
@[simp] theorem h14_inv : h14.inv = [] := rfl
def h15 : Hint where
  vars := [0, 1, 2, 3, 8]
  conds := []
  steal := []
  live := []
  roots := [(8, 8)]
  rets := true
  glob := []
  sw := []
  msd := []
  alt := []
  fz := 0
  gc := false
  wk := false
  rt := false
  inv := []
@[simp] theorem h15_vars : h15.vars = [0, 1, 2, 3, 8] := rfl
@[simp] theorem h15_conds : h15.conds = [] := rfl
@[simp] theorem h15_steal : h15.steal = [] := rfl
@[simp] theorem h15_live : h15.live = [] := rfl
@[simp] theorem h15_roots : h15.roots = [(8, 8)] := rfl
@[simp] theorem h15_rets : h15.rets = true := rfl
@[simp] theorem h15_glob : h15.glob = [] := rfl
@[simp] theorem h15_sw : h15.sw = [] := rfl
@[simp] theorem h15_msd : h15.msd = [] := rfl
@[simp] theorem h15_alt : h15.alt = [] := rfl
@[simp] theorem h15_fz : h15.fz = 0 := rfl
@[simp] theorem h15_gc : h15.gc = false := rfl
@[simp] theorem h15_wk : h15.wk = false := rfl
@[simp] theorem h15_rt : h15.rt = false := rfl
@[simp] theorem h15_inv : h15.inv = [] := rfl
def h16 : Hint where
  vars := [0, 1, 2, 4]
  conds := []
  steal := []
  live := []
  roots := [(2, 2), (8, 2), (10, 2), (16, 2), (22, 2), (24, 2), (27, 2), (29, 2), (32, 2)]
  rets := true
  glob := []
  sw := []
  msd := []
  alt := []
  fz := 0
  gc := false
  wk := false
  rt := false
  inv := []
@[simp] theorem h16_vars : h16.vars = [0, 1, 2, 4] := rfl
@[simp] theorem h16_conds : h16.conds = [] := rfl
@[simp] theorem h16_steal : h16.steal = [] := rfl
@[simp] theorem h16_live : h16.live = [] := rfl
@[simp] theorem h16_roots : h16.roots = [(2, 2), (8, 2), (10, 2), (16, 2), (22, 2), (24, 2), (27, 2), (29, 2), (32, 2)] := rfl
@[simp] theorem h16_rets : h16.rets = true := rfl
@[simp] theorem h16_glob : h16.glob = [] := rfl
@[simp] theorem h16_sw : h16.sw = [] := rfl
@[simp] theorem h16_msd : h16.msd = [] := rfl
@[simp] theorem h16_alt : h16.alt = [] := rfl
@[simp] theorem h16_fz : h16.fz = 0 := rfl
@[simp] theorem h16_gc : h16.gc = false := rfl
@[simp] theorem h16_wk : h16.wk = false := rfl
@[simp] theorem h16_rt : h16.rt = false := rfl
@[simp] theorem h16_inv : h16.inv = [] := rfl
def h17 : Hint where
  vars := [0, 2, 3]
  conds := []
  steal := [4, 10]
  live := []
  roots := []
  rets := true
  glob := []
  sw := []
  msd := []
  alt := []
  fz := 0
  gc := false
  wk := false
  rt := false
  inv := []
@[simp] theorem h17_vars : h17.vars = [0, 2, 3] := rfl
@[simp] theorem h17_conds : h17.conds = [] := rfl
@[simp] theorem h17_steal : h17.steal = [4, 10] := rfl
@[simp] theorem h17_live : h17.live = [] := rfl
@[simp] theorem h17_roots : h17.roots = [] := rfl
@[simp] theorem h17_rets : h17.rets = true := rfl
@[simp] theorem h17_glob : h17.glob = [] := rfl
@[simp] theorem h17_sw : h17.sw = [] := rfl
@[simp] theorem h17_msd : h17.msd = [] := rfl
@[simp] theorem h17_alt : h17.alt = [] := rfl
@[simp] theorem h17_fz : h17.fz = 0 := rfl
@[simp] theorem h17_gc : h17.gc = false := rfl
@[simp] theorem h17_wk : h17.wk = false := rfl
@[simp] theorem h17_rt : h17.rt = false := rfl
@[simp] theorem h17_inv : h17.inv = [] := rfl
def h18 : Hint where
  vars := [0, 2]
  conds := []
  steal := [3]
  live := []
  roots := []
  rets := true
  glob := []
  sw := []
  msd := []
  alt := []
  fz := 0
  gc := false
  wk := false
  rt := false
  inv := []
@[simp] theorem h18_vars : h18.vars = [0, 2] := rfl
@[simp] theorem h18_conds : h18.conds = [] := rfl
@[simp] theorem h18_steal : h18.steal = [3] := rfl
@[simp] theorem h18_live : h18.live = [] := rfl
@[simp] theorem h18_roots : h18.roots = [] := rfl
@[simp] theorem h18_rets : h18.rets = true := rfl
@[simp] theorem h18_glob : h18.glob = [] := rfl
@[simp] theorem h18_sw : h18.sw = [] := rfl
@[simp] theorem h18_msd : h18.msd = [] := rfl
@[simp] theorem h18_alt : h18.alt = [] := rfl
@[simp] theorem h18_fz : h18.fz = 0 := rfl
@[simp] theorem h18_gc : h18.gc = false := rfl
@[simp] theorem h18_wk : h18.wk = false := rfl
@[simp] theorem h18_rt : h18.rt = false := rfl
@[simp] theorem h18_inv : h18.inv = [] := rfl
def h19 : Hint where
  vars := [0, 1, 4, 5, 6]
  conds := []
  steal := [7, 8, 12]
  live := []
  roots := []
  rets := true
  glob := []
  sw := []
  msd := []
  alt := []
  fz := 0
  gc := false
  wk := false
  rt := false
  inv := []
@[simp] theorem h19_vars : h19.vars = [0, 1, 4, 5, 6] := rfl
@[simp] theorem h19_conds : h19.conds = [] := rfl
@[simp] theorem h19_steal : h19.steal = [7, 8, 12] := rfl
@[simp] theorem h19_live : h19.live = [] := rfl
@[simp] theorem h19_roots : h19.roots = [] := rfl
@[simp] theorem h19_rets : h19.rets = true := rfl
@[simp] theorem h19_glob : h19.glob = [] := rfl
@[simp] theorem h19_sw : h19.sw = [] := rfl
@[simp] theorem h19_msd : h19.msd = [] := rfl
@[simp] theorem h19_alt : h19.alt = [] := rfl
@[simp] theorem h19_fz : h19.fz = 0 := rfl
@[simp] theorem h19_gc : h19.gc = false := rfl
@[simp] theorem h19_wk : h19.wk = false := rfl
@[simp] theorem h19_rt : h19.rt = false := rfl
@[simp] theorem h19_inv : h19.inv = [] := rfl
def h20 : Hint where
  vars := [0, 1, 4]
  conds := []
  steal := [5, 6]
  live := []
  roots := []
  rets := true
  glob := []
  sw := []
  msd := []
  alt := []
  fz := 0
  gc := false
  wk := false
  rt := false
  inv := []
@[simp] theorem h20_vars : h20.vars = [0, 1, 4] := rfl
@[simp] theorem h20_conds : h20.conds = [] := rfl
@[simp] theorem h20_steal : h20.steal = [5, 6] := rfl
@[simp] theorem h20_live : h20.live = [] := rfl
@[simp] theorem h20_roots : h20.roots = [] := rfl
@[simp] theorem h20_rets : h20.rets = true := rfl
@[simp] theorem h20_glob : h20.glob = [] := rfl
@[simp] theorem h20_sw : h20.sw = [] := rfl
@[simp] theorem h20_msd : h20.msd = [] := rfl
@[simp] theorem h20_alt : h20.alt = [] := rfl
@[simp] theorem h20_fz : h20.fz = 0 := rfl
@[simp] theorem h20_gc : h20.gc = false := rfl
@[simp] theorem h20_wk : h20.wk = false := rfl
@[simp] theorem h20_rt : h20.rt = false := rfl
@[simp] theorem h20_inv : h20.inv = [] := rfl
def h21 : Hint where
  vars := [0, 2, 3, 4]
  conds := [7, 14]
  steal := [8, 9, 12, 13, 15]
  live := []
  roots := []
  rets := true
  glob := []
  sw := []
  msd := []
  alt := []
  fz := 0
  gc := false
  wk := false
  rt := false
  inv := []
@[simp] theorem h21_vars : h21.vars = [0, 2, 3, 4] := rfl
@[simp] theorem h21_conds : h21.conds = [7, 14] := rfl
@[simp] theorem h21_steal : h21.steal = [8, 9, 12, 13, 15] := rfl
@[simp] theorem h21_live : h21.live = [] := rfl
@[simp] theorem h21_roots : h21.roots = [] := rfl
@[simp] theorem h21_rets : h21.rets = true := rfl
@[simp] theorem h21_glob : h21.glob = [] := rfl
@[simp] theorem h21_sw : h21.sw = [] := rfl
@[simp] theorem h21_msd : h21.msd = [] := rfl
@[simp] theorem h21_alt : h21.alt = [] := rfl
@[simp] theorem h21_fz : h21.fz = 0 := rfl
@[simp] theorem h21_gc : h21.gc = false := rfl
@[simp] theorem h21_wk : h21.wk = false := rfl
@[simp] theorem h21_rt : h21.rt = false := rfl
@[simp] theorem h21_inv : h21.inv = [] := rfl
def h22 : Hint where
  vars := [0, 1, 2, 6]
  conds := []
  steal := [7, 8, 9]
  live := []
  roots := []
  rets := true
  glob := []
  sw := []
  msd := []
  alt := []
  fz := 0
  gc := false
  wk := false
  rt := false
  inv := []
@[simp] theorem h22_vars : h22.vars = [0, 1, 2, 6] := rfl
@[simp] theorem h22_conds : h22.conds = [] := rfl
@[simp] theorem h22_steal : h22.steal = [7, 8, 9] := rfl
@[simp] theorem h22_live : h22.live = [] := rfl
@[simp] theorem h22_roots : h22.roots = [] := rfl
@[simp] theorem h22_rets : h22.rets = true := rfl
@[simp] theorem h22_glob : h22.glob = [] := rfl
@[simp] theorem h22_sw : h22.sw = [] := rfl
@[simp] theorem h22_msd : h22.msd = [] := rfl
@[simp] theorem h22_alt : h22.alt = [] := rfl
@[simp] theorem h22_fz : h22.fz = 0 := rfl
@[simp] theorem h22_gc : h22.gc = false := rfl
@[simp] theorem h22_wk : h22.wk = false := rfl
@[simp] theorem h22_rt : h22.rt = false := rfl
@[simp] theorem h22_inv : h22.inv = [] := rfl
def h23 : Hint where
  vars := [0, 1, 4, 5, 7, 8, 10, 12, 39, 40, 41, 63, 64, 65]
  conds := [13, 15, 22, 29, 42, 49, 66]
  steal := [17, 31, 51, 52, 56, 62, 71]
  live := [(12, [0, 1, 5, 39, 40, 41]), (22, [1, 8, 63, 64, 65])]
  roots := []
  rets := true
  glob := [8]
  sw := []
  msd := []
  alt := []
  fz := 0
  gc := true
  wk := false
  rt := false
  inv := []
@[simp] theorem h23_vars : h23.vars = [0, 1, 4, 5, 7, 8, 10, 12, 39, 40, 41, 63, 64, 65] := rfl
@[simp] theorem h23_conds : h23.conds = [13, 15, 22, 29, 42, 49, 66] := rfl
@[simp] theorem h23_steal : h23.steal = [17, 31, 51, 52, 56, 62, 71] := rfl
@[simp] theorem h23_live : h23.live = [(12, [0, 1, 5, 39, 40, 41]), (22, [1, 8, 63, 64, 65])] := rfl
@[simp] theorem h23_roots : h23.roots = [] := rfl
@[simp] theorem h23_rets : h23.rets = true := rfl
@[simp] theorem h23_glob : h23.glob = [8] := rfl
@[simp] theorem h23_sw : h23.sw = [] := rfl
@[simp] theorem h23_msd : h23.msd = [] := rfl
@[simp] theorem h23_alt : h23.alt = [] := rfl
@[simp] theorem h23_fz : h23.fz = 0 := rfl
@[simp] theorem h23_gc : h23.gc = true := rfl
@[simp] theorem h23_wk : h23.wk = false := rfl
@[simp] theorem h23_rt : h23.rt = false := rfl
@[simp] theorem h23_inv : h23.inv = [] := rfl
def h24 : Hint where
  vars := [0, 1, 4]
  conds := []
  steal := [8, 12]
  live := []
  roots := []
  rets := true
  glob := []
  sw := []
  msd := [11]
  alt := []
  fz := 0
  gc := false
  wk := false
  rt := false
  inv := []
@[simp] theorem h24_vars : h24.vars = [0, 1, 4] := rfl
@[simp] theorem h24_conds : h24.conds = [] := rfl
@[simp] theorem h24_steal : h24.steal = [8, 12] := rfl
@[simp] theorem h24_live : h24.live = [] := rfl
@[simp] theorem h24_roots : h24.roots = [] := rfl
@[simp] theorem h24_rets : h24.rets = true := rfl
@[simp] theorem h24_glob : h24.glob = [] := rfl
@[simp] theorem h24_sw : h24.sw = [] := rfl
@[simp] theorem h24_msd : h24.msd = [11] := rfl
@[simp] theorem h24_alt : h24.alt = [] := rfl
@[simp] theorem h24_fz : h24.fz = 0 := rfl
@[simp] theorem h24_gc : h24.gc = false := rfl
@[simp] theorem h24_wk : h24.wk = false := rfl
@[simp] theorem h24_rt : h24.rt = false := rfl
@[simp] theorem h24_inv : h24.inv = [] := rfl
def h25 : Hint where
  vars := [0, 2]
  conds := []
  steal := []
  live := []
  roots := []
  rets := true
  glob := []
  sw := []
  msd := []
  alt := []
  fz := 0
  gc := false
  wk := false
  rt := false
  inv := []
@[simp] theorem h25_vars : h25.vars = [0, 2] := rfl
@[simp] theorem h25_conds : h25.conds = [] := rfl
@[simp] theorem h25_steal : h25.steal = [] := rfl
@[simp] theorem h25_live : h25.live = [] := rfl
@[simp] theorem h25_roots : h25.roots = [] := rfl
@[simp] theorem h25_rets : h25.rets = true := rfl
@[simp] theorem h25_glob : h25.glob = [] := rfl
@[simp] theorem h25_sw : h25.sw = [] := rfl
@[simp] theorem h25_msd : h25.msd = [] := rfl
@[simp] theorem h25_alt : h25.alt = [] := rfl
@[simp] theorem h25_fz : h25.fz = 0 := rfl
@[simp] theorem h25_gc : h25.gc = false := rfl
@[simp] theorem h25_wk : h25.wk = false := rfl
@[simp] theorem h25_rt : h25.rt = false := rfl
@[simp] theorem h25_inv : h25.inv = [] := rfl
def h26 : Hint where
  vars := [0, 2, 3, 4, 5, 6, 7, 8, 9, 10, 12, 44, 72, 73]
  conds := [21, 40, 45, 62, 74]
  steal := [22, 32, 41, 47, 51, 63, 76, 86, 91]
  live := [(5, [0, 3, 4, 5, 6]), (9, [0, 3, 4, 7]), (12, [0, 3, 4, 7, 44]), (17, [3, 4, 7, 9]), (22, [10, 72, 73])]
  roots := [(4, 4)]
  rets := true
  glob := [3]
  sw := [30, 71]
  msd := []
  alt := []
  fz := 0
  gc := true
  wk := false
  rt := false
  inv := []
@[simp] theorem h26_vars : h26.vars = [0, 2, 3, 4, 5, 6, 7, 8, 9, 10, 12, 44, 72, 73] := rfl
@[simp] theorem h26_conds : h26.conds = [21, 40, 45, 62, 74] := rfl
@[simp] theorem h26_steal : h26.steal = [22, 32, 41, 47, 51, 63, 76, 86, 91] := rfl
@[simp] theorem h26_live : h26.live = [(5, [0, 3, 4, 5, 6]), (9, [0, 3, 4, 7]), (12, [0, 3, 4, 7, 44]), (17, [3, 4, 7, 9]), (22, [10, 72, 73])] := rfl
@[simp] theorem h26_roots : h26.roots = [(4, 4)] := rfl
@[simp] theorem h26_rets : h26.rets = true := rfl
@[simp] theorem h26_glob : h26.glob = [3] := rfl
@[simp] theorem h26_sw : h26.sw = [30, 71] := rfl
@[simp] theorem h26_msd : h26.msd = [] := rfl
@[simp] theorem h26_alt : h26.alt = [] := rfl
@[simp] theorem h26_fz : h26.fz = 0 := rfl
@[simp] theorem h26_gc : h26.gc = true := rfl
@[simp] theorem h26_wk : h26.wk = false := rfl
@[simp] theorem h26_rt : h26.rt = false := rfl
@[simp] theorem h26_inv : h26.inv = [] := rfl
def h27 : Hint where
  vars := [0, 1, 2, 6]
  conds := []
  steal := [9, 13, 17, 18, 19, 20]
  live := []
  roots := []
  rets := true
  glob := []
  sw := []
  msd := []
  alt := []
  fz := 0
  gc := false
  wk := false
  rt := false
  inv := []
@[simp] theorem h27_vars : h27.vars = [0, 1, 2, 6] := rfl
@[simp] theorem h27_conds : h27.conds = [] := rfl
@[simp] theorem h27_steal : h27.steal = [9, 13, 17, 18, 19, 20] := rfl
@[simp] theorem h27_live : h27.live = [] := rfl
@[simp] theorem h27_roots : h27.roots = [] := rfl
@[simp] theorem h27_rets : h27.rets = true := rfl
@[simp] theorem h27_glob : h27.glob = [] := rfl
@[simp] theorem h27_sw : h27.sw = [] := rfl
@[simp] theorem h27_msd : h27.msd = [] := rfl
@[simp] theorem h27_alt : h27.alt = [] := rfl
@[simp] theorem h27_fz : h27.fz = 0 := rfl
@[simp] theorem h27_gc : h27.gc = false := rfl
@[simp] theorem h27_wk : h27.wk = false := rfl
@[simp] theorem h27_rt : h27.rt = false := rfl
@[simp] theorem h27_inv : h27.inv = [] := rfl
def h28 : Hint where
  vars := [0, 2, 3]
  conds := [5]
  steal := [6, 8, 11]
  live := [(2, [0, 3])]
  roots := []
  rets := true
  glob := []
  sw := []
  msd := []
  alt := []
  fz := 0
  gc := false
  wk := false
  rt := false
  inv := []
@[simp] theorem h28_vars : h28.vars = [0, 2, 3] := rfl
@[simp] theorem h28_conds : h28.conds = [5] := rfl
@[simp] theorem h28_steal : h28.steal = [6, 8, 11] := rfl
@[simp] theorem h28_live : h28.live = [(2, [0, 3])] := rfl
@[simp] theorem h28_roots : h28.roots = [] := rfl
@[simp] theorem h28_rets : h28.rets = true := rfl
@[simp] theorem h28_glob : h28.glob = [] := rfl
@[simp] theorem h28_sw : h28.sw = [] := rfl
@[simp] theorem h28_msd : h28.msd = [] := rfl
@[simp] theorem h28_alt : h28.alt = [] := rfl
@[simp] theorem h28_fz : h28.fz = 0 := rfl
@[simp] theorem h28_gc : h28.gc = false := rfl
@[simp] theorem h28_wk : h28.wk = false := rfl
@[simp] theorem h28_rt : h28.rt = false := rfl
@[simp] theorem h28_inv : h28.inv = [] := rfl
def h29 : Hint where
  vars := [0, 1, 2]
  conds := []
  steal := []
  live := []
  roots := [(3, 1), (7, 1), (12, 1), (17, 1), (22, 1), (27, 1), (29, 1)]
  rets := true
  glob := []
  sw := []
  msd := []
  alt := []
  fz := 0
  gc := false
  wk := false
  rt := false
  inv := []
@[simp] theorem h29_vars : h29.vars = [0, 1, 2] := rfl
@[simp] theorem h29_conds : h29.conds = [] := rfl
@[simp] theorem h29_steal : h29.steal = [] := rfl
@[simp] theorem h29_live : h29.live = [] := rfl
@[simp] theorem h29_roots : h29.roots = [(3, 1), (7, 1), (12, 1), (17, 1), (22, 1), (27, 1), (29, 1)] := rfl
@[simp] theorem h29_rets : h29.rets = true := rfl
@[simp] theorem h29_glob : h29.glob = [] := rfl
@[simp] theorem h29_sw : h29.sw = [] := rfl
@[simp] theorem h29_msd : h29.msd = [] := rfl
@[simp] theorem h29_alt : h29.alt = [] := rfl
@[simp] theorem h29_fz : h29.fz = 0 := rfl
@[simp] theorem h29_gc : h29.gc = false := rfl
@[simp] theorem h29_wk : h29.wk = false := rfl
@[simp] theorem h29_rt : h29.rt = false := rfl
@[simp] theorem h29_inv : h29.inv = [] := rfl
def h30 : Hint where
  vars := [0, 1, 4, 5, 6, 7, 8, 9, 10, 11, 42]
  conds := [12, 14, 18, 34, 40, 43, 49, 58, 67, 76, 85, 96, 104, 113]
  steal := [16, 20, 24, 28, 29, 31, 36, 52, 56, 61, 65, 70, 74, 79, 83, 88, 92, 109, 121]
  live := [(38, [7, 8, 9])]
  roots := []
  rets := true
  glob := [9]
  sw := []
  msd := []
  alt := []
  fz := 0
  gc := true
  wk := false
  rt := false
  inv := []
@[simp] theorem h30_vars : h30.vars = [0, 1, 4, 5, 6, 7, 8, 9, 10, 11, 42] := rfl
@[simp] theorem h30_conds : h30.conds = [12, 14, 18, 34, 40, 43, 49, 58, 67, 76, 85, 96, 104, 113] := rfl
@[simp] theorem h30_steal : h30.steal = [16, 20, 24, 28, 29, 31, 36, 52, 56, 61, 65, 70, 74, 79, 83, 88, 92, 109, 121] := rfl
@[simp] theorem h30_live : h30.live = [(38, [7, 8, 9])] := rfl
@[simp] theorem h30_roots : h30.roots = [] := rfl
@[simp] theorem h30_rets : h30.rets = true := rfl
@[simp] theorem h30_glob : h30.glob = [9] := rfl
@[simp] theorem h30_sw : h30.sw = [] := rfl
@[simp] theorem h30_msd : h30.msd = [] := rfl
@[simp] theorem h30_alt : h30.alt = [] := rfl
@[simp] theorem h30_fz : h30.fz = 0 := rfl
@[simp] theorem h30_gc : h30.gc = true := rfl
@[simp] theorem h30_wk : h30.wk = false := rfl
@[simp] theorem h30_rt : h30.rt = false := rfl
@[simp] theorem h30_inv : h30.inv = [] := rfl
def h31 : Hint where
  vars := [0, 2]
  conds := []
  steal := [3]
  live := []
  roots := []
  rets := true
  glob := []
  sw := []
  msd := []
  alt := []
  fz := 0
  gc := false
  wk := false
  rt := false
  inv := []
@[simp] theorem h31_vars : h31.vars = [0, 2] := rfl
@[simp] theorem h31_conds : h31.conds = [] := rfl
@[simp] theorem h31_steal : h31.steal = [3] := rfl
@[simp] theorem h31_live : h31.live = [] := rfl
@[simp] theorem h31_roots : h31.roots = [] := rfl
@[simp] theorem h31_rets : h31.rets = true := rfl
@[simp] theorem h31_glob : h31.glob = [] := rfl
@[simp] theorem h31_sw : h31.sw = [] := rfl
@[simp] theorem h31_msd : h31.msd = [] := rfl
@[simp] theorem h31_alt : h31.alt = [] := rfl
@[simp] theorem h31_fz : h31.fz = 0 := rfl
@[simp] theorem h31_gc : h31.gc = false := rfl
@[simp] theorem h31_wk : h31.wk = false := rfl
@[simp] theorem h31_rt : h31.rt = false := rfl
@[simp] theorem h31_inv : h31.inv = [] := rfl
def h32 : Hint where
  vars := [0, 1, 4, 5, 6, 7]
  conds := [12]
  steal := [22]
  live := []
  roots := []
  rets := true
  glob := []
  sw := []
  msd := []
  alt := []
  fz := 0
  gc := false
  wk := false
  rt := false
  inv := []
@[simp] theorem h32_vars : h32.vars = [0, 1, 4, 5, 6, 7] := rfl
@[simp] theorem h32_conds : h32.conds = [12] := rfl
@[simp] theorem h32_steal : h32.steal = [22] := rfl
@[simp] theorem h32_live : h32.live = [] := rfl
@[simp] theorem h32_roots : h32.roots = [] := rfl
@[simp] theorem h32_rets : h32.rets = true := rfl
@[simp] theorem h32_glob : h32.glob = [] := rfl
@[simp] theorem h32_sw : h32.sw = [] := rfl
@[simp] theorem h32_msd : h32.msd = [] := rfl
@[simp] theorem h32_alt : h32.alt = [] := rfl
@[simp] theorem h32_fz : h32.fz = 0 := rfl
@[simp] theorem h32_gc : h32.gc = false := rfl
@[simp] theorem h32_wk : h32.wk = false := rfl
@[simp] theorem h32_rt : h32.rt = false := rfl
@[simp] theorem h32_inv : h32.inv = [] := rfl
def h33 : Hint where
  vars := [0, 1, 2, 3, 8, 9, 10, 11]
  conds := [13, 15, 20, 36, 41]
  steal := [16, 17, 25, 32, 50, 51, 56, 60, 62, 63]
  live := [(11, [0, 1, 2, 3, 9, 10])]
  roots := []
  rets := true
  glob := [31]
  sw := []
  msd := [31]
  alt := []
  fz := 2
  gc := true
  wk := false
  rt := false
  inv := []
@[simp] theorem h33_vars : h33.vars = [0, 1, 2, 3, 8, 9, 10, 11] := rfl
@[simp] theorem h33_conds : h33.conds = [13, 15, 20, 36, 41] := rfl
@[simp] theorem h33_steal : h33.steal = [16, 17, 25, 32, 50, 51, 56, 60, 62, 63] := rfl
@[simp] theorem h33_live : h33.live = [(11, [0, 1, 2, 3, 9, 10])] := rfl
@[simp] theorem h33_roots : h33.roots = [] := rfl
@[simp] theorem h33_rets : h33.rets = true := rfl
@[simp] theorem h33_glob : h33.glob = [31] := rfl
@[simp] theorem h33_sw : h33.sw = [] := rfl
@[simp] theorem h33_msd : h33.msd = [31] := rfl
@[simp] theorem h33_alt : h33.alt = [] := rfl
@[simp] theorem h33_fz : h33.fz = 2 := rfl
@[simp] theorem h33_gc : h33.gc = true := rfl
@[simp] theorem h33_wk : h33.wk = false := rfl
@[simp] theorem h33_rt : h33.rt = false := rfl
@[simp] theorem h33_inv : h33.inv = [] := rfl
def h34 : Hint where
  vars := [0, 2, 3, 4, 5]
  conds := [12]
  steal := [6, 10, 13, 14, 15, 17]
  live := []
  roots := []
  rets := true
  glob := []
  sw := []
  msd := []
  alt := []
  fz := 0
  gc := false
  wk := false
  rt := false
  inv := []
@[simp] theorem h34_vars : h34.vars = [0, 2, 3, 4, 5] := rfl
@[simp] theorem h34_conds : h34.conds = [12] := rfl
@[simp] theorem h34_steal : h34.steal = [6, 10, 13, 14, 15, 17] := rfl
@[simp] theorem h34_live : h34.live = [] := rfl
@[simp] theorem h34_roots : h34.roots = [] := rfl
@[simp] theorem h34_rets : h34.rets = true := rfl
@[simp] theorem h34_glob : h34.glob = [] := rfl
@[simp] theorem h34_sw : h34.sw = [] := rfl
@[simp] theorem h34_msd : h34.msd = [] := rfl
@[simp] theorem h34_alt : h34.alt = [] := rfl
@[simp] theorem h34_fz : h34.fz = 0 := rfl
@[simp] theorem h34_gc : h34.gc = false := rfl
@[simp] theorem h34_wk : h34.wk = false := rfl
@[simp] theorem h34_rt : h34.rt = false := rfl
@[simp] theorem h34_inv : h34.inv = [] := rfl
def h35 : Hint where
  vars := [0, 1, 2, 3, 8, 9, 10, 11, 12, 14, 15, 52, 53, 77, 78]
  conds := [22, 28, 36, 51, 54, 79]
  steal := [19, 23, 29, 32, 37, 52, 63, 69, 76, 80, 86, 88, 91, 97, 99, 100]
  live := [(13, [0, 1, 2, 10, 11, 52, 53]), (21, [0, 2, 10, 11, 77, 78])]
  roots := []
  rets := true
  glob := [10]
  sw := []
  msd := []
  alt := []
  fz := 0
  gc := true
  wk := false
  rt := false
  inv := []
@[simp] theorem h35_vars : h35.vars = [0, 1, 2, 3, 8, 9, 10, 11, 12, 14, 15, 52, 53, 77, 78] := rfl
@[simp] theorem h35_conds : h35.conds = [22, 28, 36, 51, 54, 79] := rfl
@[simp] theorem h35_steal : h35.steal = [19, 23, 29, 32, 37, 52, 63, 69, 76, 80, 86, 88, 91, 97, 99, 100] := rfl
@[simp] theorem h35_live : h35.live = [(13, [0, 1, 2, 10, 11, 52, 53]), (21, [0, 2, 10, 11, 77, 78])] := rfl
@[simp] theorem h35_roots : h35.roots = [] := rfl
@[simp] theorem h35_rets : h35.rets = true := rfl
@[simp] theorem h35_glob : h35.glob = [10] := rfl
@[simp] theorem h35_sw : h35.sw = [] := rfl
@[simp] theorem h35_msd : h35.msd = [] := rfl
@[simp] theorem h35_alt : h35.alt = [] := rfl
@[simp] theorem h35_fz : h35.fz = 0 := rfl
@[simp] theorem h35_gc : h35.gc = true := rfl
@[simp] theorem h35_wk : h35.wk = false := rfl
@[simp] theorem h35_rt : h35.rt = false := rfl
@[simp] theorem h35_inv : h35.inv = [] := rfl
def h36 : Hint where
  vars := [0, 1]
  conds := [7, 21]
  steal := [22, 23]
  live := []
  roots := []
  rets := true
  glob := []
  sw := []
  msd := []
  alt := []
  fz := 0
  gc := false
  wk := false
  rt := false
  inv := []
@[simp] theorem h36_vars : h36.vars = [0, 1] := rfl
@[simp] theorem h36_conds : h36.conds = [7, 21] := rfl
@[simp] theorem h36_steal : h36.steal = [22, 23] := rfl
@[simp] theorem h36_live : h36.live = [] := rfl
@[simp] theorem h36_roots : h36.roots = [] := rfl
@[simp] theorem h36_rets : h36.rets = true := rfl
@[simp] theorem h36_glob : h36.glob = [] := rfl
@[simp] theorem h36_sw : h36.sw = [] := rfl
@[simp] theorem h36_msd : h36.msd = [] := rfl
@[simp] theorem h36_alt : h36.alt = [] := rfl
@[simp] theorem h36_fz : h36.fz = 0 := rfl
@[simp] theorem h36_gc : h36.gc = false := rfl
@[simp] theorem h36_wk : h36.wk = false := rfl
@[simp] theorem h36_rt : h36.rt = false := rfl
@[simp] theorem h36_inv : h36.inv = [] := rfl
def h37 : Hint where
  vars := [0, 1, 4, 5]
  conds := []
  steal := [9, 17]
  live := []
  roots := []
  rets := true
  glob := []
  sw := []
  msd := [12]
  alt := []
  fz := 0
  gc := false
  wk := false
  rt := false
  inv := []
@[simp] theorem h37_vars : h37.vars = [0, 1, 4, 5] := rfl
@[simp] theorem h37_conds : h37.conds = [] := rfl
@[simp] theorem h37_steal : h37.steal = [9, 17] := rfl
@[simp] theorem h37_live : h37.live = [] := rfl
@[simp] theorem h37_roots : h37.roots = [] := rfl
@[simp] theorem h37_rets : h37.rets = true := rfl
@[simp] theorem h37_glob : h37.glob = [] := rfl
@[simp] theorem h37_sw : h37.sw = [] := rfl
@[simp] theorem h37_msd : h37.msd = [12] := rfl
@[simp] theorem h37_alt : h37.alt = [] := rfl
@[simp] theorem h37_fz : h37.fz = 0 := rfl
@[simp] theorem h37_gc : h37.gc = false := rfl
@[simp] theorem h37_wk : h37.wk = false := rfl
@[simp] theorem h37_rt : h37.rt = false := rfl
@[simp] theorem h37_inv : h37.inv = [] := rfl
def h39 : Hint where
  vars := [0]
  conds := []
  steal := []
  live := []
  roots := []
  rets := true
  glob := []
  sw := []
  msd := []
  alt := []
  fz := 0
  gc := false
  wk := false
  rt := false
  inv := []
@[simp] theorem h39_vars : h39.vars = [0] := rfl
@[simp] theorem h39_conds : h39.conds = [] := rfl
@[simp] theorem h39_steal : h39.steal = [] := rfl
@[simp] theorem h39_live : h39.live = [] := rfl
@[simp] theorem h39_roots : h39.roots = [] := rfl
@[simp] theorem h39_rets : h39.rets = true := rfl
@[simp] theorem h39_glob : h39.glob = [] := rfl
@[simp] theorem h39_sw : h39.sw = [] := rfl
@[simp] theorem h39_msd : h39.msd = [] := rfl
@[simp] theorem h39_alt : h39.alt = [] := rfl
@[simp] theorem h39_fz : h39.fz = 0 := rfl
@[simp] theorem h39_gc : h39.gc = false := rfl
@[simp] theorem h39_wk : h39.wk = false := rfl
@[simp] theorem h39_rt : h39.rt = false := rfl
@[simp] theorem h39_inv : h39.inv = [] := rfl
def h40 : Hint where
  vars := [0]
  conds := []
  steal := []
  live := []
  roots := []
  rets := true
  glob := []
  sw := []
  msd := []
  alt := []
  fz := 0
  gc := false
  wk := false
  rt := false
  inv := []
@[simp] theorem h40_vars : h40.vars = [0] := rfl
@[simp] theorem h40_conds : h40.conds = [] := rfl
@[simp] theorem h40_steal : h40.steal = [] := rfl
@[simp] theorem h40_live : h40.live = [] := rfl
@[simp] theorem h40_roots : h40.roots = [] := rfl
@[simp] theorem h40_rets : h40.rets = true := rfl
@[simp] theorem h40_glob : h40.glob = [] := rfl
@[simp] theorem h40_sw : h40.sw = [] := rfl
@[simp] theorem h40_msd : h40.msd = [] := rfl
@[simp] theorem h40_alt : h40.alt = [] := rfl
@[simp] theorem h40_fz : h40.fz = 0 := rfl
@[simp] theorem h40_gc : h40.gc = false := rfl
@[simp] theorem h40_wk : h40.wk = false := rfl
@[simp] theorem h40_rt : h40.rt = false := rfl
@[simp] theorem h40_inv : h40.inv = [] := rfl
def h41 : Hint where
  vars := [0, 1, 2, 3, 6, 7, 8, 9, 10, 11, 12, 13, 14, 15, 19, 112]
  conds := [20, 113]
  steal := [16, 90, 92, 102]
  live := [(4, [2, 3, 6, 7, 8, 19]), (14, [3, 6, 8, 112])]
  roots := [(22, 8), (25, 8), (29, 8), (45, 8), (58, 7), (61, 8), (64, 8), (68, 8), (116, 8), (119, 3), (122, 8)]
  rets := true
  glob := []
  sw := [27, 66]
  msd := []
  alt := []
  fz := 0
  gc := false
  wk := false
  rt := false
  inv := []
@[simp] theorem h41_vars : h41.vars = [0, 1, 2, 3, 6, 7, 8, 9, 10, 11, 12, 13, 14, 15, 19, 112] := rfl
@[simp] theorem h41_conds : h41.conds = [20, 113] := rfl
@[simp] theorem h41_steal : h41.steal = [16, 90, 92, 102] := rfl
@[simp] theorem h41_live : h41.live = [(4, [2, 3, 6, 7, 8, 19]), (14, [3, 6, 8, 112])] := rfl
@[simp] theorem h41_roots : h41.roots = [(22, 8), (25, 8), (29, 8), (45, 8), (58, 7), (61, 8), (64, 8), (68, 8), (116, 8), (119, 3), (122, 8)] := rfl
@[simp] theorem h41_rets : h41.rets = true := rfl
@[simp] theorem h41_glob : h41.glob = [] := rfl
@[simp] theorem h41_sw : h41.sw = [27, 66] := rfl
@[simp] theorem h41_msd : h41.msd = [] := rfl
@[simp] theorem h41_alt : h41.alt = [] := rfl
@[simp] theorem h41_fz : h41.fz = 0 := rfl
@[simp] theorem h41_gc : h41.gc = false := rfl
@[simp] theorem h41_wk : h41.wk = false := rfl
@[simp] theorem h41_rt : h41.rt = false := rfl
@[simp] theorem h41_inv : h41.inv = [] := rfl
def h42 : Hint where
  vars := [0, 2]
  conds := []
  steal := [6]
  live := []
  roots := []
  rets := true
  glob := []
  sw := []
  msd := []
  alt := []
  fz := 0
  gc := false
  wk := false
  rt := false
  inv := []
@[simp] theorem h42_vars : h42.vars = [0, 2] := rfl
@[simp] theorem h42_conds : h42.conds = [] := rfl
@[simp] theorem h42_steal : h42.steal = [6] := rfl
@[simp] theorem h42_live : h42.live = [] := rfl
@[simp] theorem h42_roots : h42.roots = [] := rfl
@[simp] theorem h42_rets : h42.rets = true := rfl
@[simp] theorem h42_glob : h42.glob = [] := rfl
@[simp] theorem h42_sw : h42.sw = [] := rfl
@[simp] theorem h42_msd : h42.msd = [] := rfl
@[simp] theorem h42_alt : h42.alt = [] := rfl
@[simp] theorem h42_fz : h42.fz = 0 := rfl
@[simp] theorem h42_gc : h42.gc = false := rfl
@[simp] theorem h42_wk : h42.wk = false := rfl
@[simp] theorem h42_rt : h42.rt = false := rfl
@[simp] theorem h42_inv : h42.inv = [] := rfl
def h43 : Hint where
  vars := [0, 1, 4, 5, 6, 7, 8, 9]
  conds := []
  steal := [10, 11, 13, 17, 18, 20, 22, 23, 24, 27, 28, 29]
  live := []
  roots := []
  rets := true
  glob := []
  sw := []
  msd := []
  alt := []
  fz := 0
  gc := false
  wk := false
  rt := false
  inv := []
@[simp] theorem h43_vars : h43.vars = [0, 1, 4, 5, 6, 7, 8, 9] := rfl
@[simp] theorem h43_conds : h43.conds = [] := rfl
@[simp] theorem h43_steal : h43.steal = [10, 11, 13, 17, 18, 20, 22, 23, 24, 27, 28, 29] := rfl
@[simp] theorem h43_live : h43.live = [] := rfl
@[simp] theorem h43_roots : h43.roots = [] := rfl
@[simp] theorem h43_rets : h43.rets = true := rfl
@[simp] theorem h43_glob : h43.glob = [] := rfl
@[simp] theorem h43_sw : h43.sw = [] := rfl
@[simp] theorem h43_msd : h43.msd = [] := rfl
@[simp] theorem h43_alt : h43.alt = [] := rfl
@[simp] theorem h43_fz : h43.fz = 0 := rfl
@[simp] theorem h43_gc : h43.gc = false := rfl
@[simp] theorem h43_wk : h43.wk = false := rfl
@[simp] theorem h43_rt : h43.rt = false := rfl
@[simp] theorem h43_inv : h43.inv = [] := rfl
def h44 : Hint where
  vars := [0, 1, 4]
  conds := []
  steal := [5, 6]
  live := []
  roots := []
  rets := true
  glob := []
  sw := []
  msd := []
  alt := []
  fz := 0
  gc := false
  wk := false
  rt := false
  inv := []
@[simp] theorem h44_vars : h44.vars = [0, 1, 4] := rfl
@[simp] theorem h44_conds : h44.conds = [] := rfl
@[simp] theorem h44_steal : h44.steal = [5, 6] := rfl
@[simp] theorem h44_live : h44.live = [] := rfl
@[simp] theorem h44_roots : h44.roots = [] := rfl
@[simp] theorem h44_rets : h44.rets = true := rfl
@[simp] theorem h44_glob : h44.glob = [] := rfl
@[simp] theorem h44_sw : h44.sw = [] := rfl
@[simp] theorem h44_msd : h44.msd = [] := rfl
@[simp] theorem h44_alt : h44.alt = [] := rfl
@[simp] theorem h44_fz : h44.fz = 0 := rfl
@[simp] theorem h44_gc : h44.gc = false := rfl
@[simp] theorem h44_wk : h44.wk = false := rfl
@[simp] theorem h44_rt : h44.rt = false := rfl
@[simp] theorem h44_inv : h44.inv = [] := rfl
def h45 : Hint where
  vars := [0, 2]
  conds := []
  steal := [3]
  live := []
  roots := []
  rets := true
  glob := []
  sw := []
  msd := []
  alt := []
  fz := 0
  gc := false
  wk := false
  rt := false
  inv := []
@[simp] theorem h45_vars : h45.vars = [0, 2] := rfl
@[simp] theorem h45_conds : h45.conds = [] := rfl
@[simp] theorem h45_steal : h45.steal = [3] := rfl
@[simp] theorem h45_live : h45.live = [] := rfl
@[simp] theorem h45_roots : h45.roots = [] := rfl
@[simp] theorem h45_rets : h45.rets = true := rfl
@[simp] theorem h45_glob : h45.glob = [] := rfl
@[simp] theorem h45_sw : h45.sw = [] := rfl
@[simp] theorem h45_msd : h45.msd = [] := rfl
@[simp] theorem h45_alt : h45.alt = [] := rfl
@[simp] theorem h45_fz : h45.fz = 0 := rfl
@[simp] theorem h45_gc : h45.gc = false := rfl
@[simp] theorem h45_wk : h45.wk = false := rfl
@[simp] theorem h45_rt : h45.rt = false := rfl
@[simp] theorem h45_inv : h45.inv = [] := rfl
def h46 : Hint where
  vars := [0, 1, 4, 5, 6, 7, 9]
  conds := [11, 17, 23, 34]
  steal := [14, 18, 24, 31, 33, 36, 40, 44, 47, 48, 52, 53]
  live := []
  roots := []
  rets := true
  glob := [5]
  sw := []
  msd := []
  alt := []
  fz := 0
  gc := true
  wk := false
  rt := false
  inv := []
@[simp] theorem h46_vars : h46.vars = [0, 1, 4, 5, 6, 7, 9] := rfl
@[simp] theorem h46_conds : h46.conds = [11, 17, 23, 34] := rfl
@[simp] theorem h46_steal : h46.steal = [14, 18, 24, 31, 33, 36, 40, 44, 47, 48, 52, 53] := rfl
@[simp] theorem h46_live : h46.live = [] := rfl
@[simp] theorem h46_roots : h46.roots = [] := rfl
@[simp] theorem h46_rets : h46.rets = true := rfl
@[simp] theorem h46_glob : h46.glob = [5] := rfl
@[simp] theorem h46_sw : h46.sw = [] := rfl
@[simp] theorem h46_msd : h46.msd = [] := rfl
@[simp] theorem h46_alt : h46.alt = [] := rfl
@[simp] theorem h46_fz : h46.fz = 0 := rfl
@[simp] theorem h46_gc : h46.gc = true := rfl
@[simp] theorem h46_wk : h46.wk = false := rfl
@[simp] theorem h46_rt : h46.rt = false := rfl
@[simp] theorem h46_inv : h46.inv = [] := rfl
def h47 : Hint where
  vars := [0, 1, 4, 5, 6, 7, 8, 9, 10, 11, 12, 13]
  conds := [16, 24, 31, 36, 59, 64, 73, 93, 107, 114, 132, 139]
  steal := [19, 27, 28, 40, 45, 46, 74, 75, 84, 94, 95, 97, 102, 108, 111, 115, 116, 121, 128, 133, 136, 140, 141]
  live := [(15, [0, 1, 5, 6, 7, 8, 9, 10])]
  roots := []
  rets := true
  glob := []
  sw := []
  msd := []
  alt := []
  fz := 0
  gc := false
  wk := false
  rt := false
  inv := []
@[simp] theorem h47_vars : h47.vars = [0, 1, 4, 5, 6, 7, 8, 9, 10, 11, 12, 13] := rfl
@[simp] theorem h47_conds : h47.conds = [16, 24, 31, 36, 59, 64, 73, 93, 107, 114, 132, 139] := rfl
@[simp] theorem h47_steal : h47.steal = [19, 27, 28, 40, 45, 46, 74, 75, 84, 94, 95, 97, 102, 108, 111, 115, 116, 121, 128, 133, 136, 140, 141] := rfl
@[simp] theorem h47_live : h47.live = [(15, [0, 1, 5, 6, 7, 8, 9, 10])] := rfl
@[simp] theorem h47_roots : h47.roots = [] := rfl
@[simp] theorem h47_rets : h47.rets = true := rfl
@[simp] theorem h47_glob : h47.glob = [] := rfl
@[simp] theorem h47_sw : h47.sw = [] := rfl
@[simp] theorem h47_msd : h47.msd = [] := rfl
@[simp] theorem h47_alt : h47.alt = [] := rfl
@[simp] theorem h47_fz : h47.fz = 0 := rfl
@[simp] theorem h47_gc : h47.gc = false := rfl
@[simp] theorem h47_wk : h47.wk = false := rfl
@[simp] theorem h47_rt : h47.rt = false := rfl
@[simp] theorem h47_inv : h47.inv = [] := rfl
def h48 : Hint where
  vars := [0, 1, 4, 5, 6, 7, 9]
  conds := [18, 25, 43]
  steal := [14, 19, 26, 28, 32, 39, 40, 45, 47, 49]
  live := [(6, [0, 1, 6, 7])]
  roots := []
  rets := true
  glob := [21]
  sw := []
  msd := [21]
  alt := []
  fz := 2
  gc := true
  wk := false
  rt := false
  inv := []
@[simp] theorem h48_vars : h48.vars = [0, 1, 4, 5, 6, 7, 9] := rfl
@[simp] theorem h48_conds : h48.conds = [18, 25, 43] := rfl
@[simp] theorem h48_steal : h48.steal = [14, 19, 26, 28, 32, 39, 40, 45, 47, 49] := rfl
@[simp] theorem h48_live : h48.live = [(6, [0, 1, 6, 7])] := rfl
@[simp] theorem h48_roots : h48.roots = [] := rfl
@[simp] theorem h48_rets : h48.rets = true := rfl
@[simp] theorem h48_glob : h48.glob = [21] := rfl
@[simp] theorem h48_sw : h48.sw = [] := rfl
@[simp] theorem h48_msd : h48.msd = [21] := rfl
@[simp] theorem h48_alt : h48.alt = [] := rfl
@[simp] theorem h48_fz : h48.fz = 2 := rfl
@[simp] theorem h48_gc : h48.gc = true := rfl
@[simp] theorem h48_wk : h48.wk = false := rfl
@[simp] theorem h48_rt : h48.rt = false := rfl
@[simp] theorem h48_inv : h48.inv = [] := rfl
def h49 : Hint where
  vars := [0, 1, 4, 5, 6]
  conds := [9, 15, 24]
  steal := [10, 16, 17, 25, 26, 28, 29]
  live := [(6, [0, 1, 5])]
  roots := []
  rets := true
  glob := []
  sw := []
  msd := []
  alt := []
  fz := 0
  gc := false
  wk := false
  rt := false
  inv := []
@[simp] theorem h49_vars : h49.vars = [0, 1, 4, 5, 6] := rfl
@[simp] theorem h49_conds : h49.conds = [9, 15, 24] := rfl
@[simp] theorem h49_steal : h49.steal = [10, 16, 17, 25, 26, 28, 29] := rfl
@[simp] theorem h49_live : h49.live = [(6, [0, 1, 5])] := rfl
@[simp] theorem h49_roots : h49.roots = [] := rfl
@[simp] theorem h49_rets : h49.rets = true := rfl
@[simp] theorem h49_glob : h49.glob = [] := rfl
@[simp] theorem h49_sw : h49.sw = [] := rfl
@[simp] theorem h49_msd : h49.msd = [] := rfl
@[simp] theorem h49_alt : h49.alt = [] := rfl
@[simp] theorem h49_fz : h49.fz = 0 := rfl
@[simp] theorem h49_gc : h49.gc = false := rfl
@[simp] theorem h49_wk : h49.wk = false := rfl
@[simp] theorem h49_rt : h49.rt = false := rfl
@[simp] theorem h49_inv : h49.inv = [] := rfl
def h50 : Hint where
  vars := [0, 1, 4]
  conds := []
  steal := [5, 6]
  live := []
  roots := []
  rets := true
  glob := []
  sw := []
  msd := []
  alt := []
  fz := 0
  gc := false
  wk := false
  rt := false
  inv := []
@[simp] theorem h50_vars : h50.vars = [0, 1, 4] := rfl
@[simp] theorem h50_conds : h50.conds = [] := rfl
@[simp] theorem h50_steal : h50.steal = [5, 6] := rfl
@[simp] theorem h50_live : h50.live = [] := rfl
@[simp] theorem h50_roots : h50.roots = [] := rfl
@[simp] theorem h50_rets : h50.rets = true := rfl
@[simp] theorem h50_glob : h50.glob = [] := rfl
@[simp] theorem h50_sw : h50.sw = [] := rfl
@[simp] theorem h50_msd : h50.msd = [] := rfl
@[simp] theorem h50_alt : h50.alt = [] := rfl
@[simp] theorem h50_fz : h50.fz = 0 := rfl
@[simp] theorem h50_gc : h50.gc = false := rfl
@[simp] theorem h50_wk : h50.wk = false := rfl
@[simp] theorem h50_rt : h50.rt = false := rfl
@[simp] theorem h50_inv : h50.inv = [] := rfl
def h51 : Hint where
  vars := [0, 2, 3, 4, 5, 6, 8, 9, 10, 47, 48, 49]
  conds := [30, 39, 44, 50, 56, 66]
  steal := [16, 21, 25, 26, 35, 40, 46, 53, 58, 60, 64, 67, 69, 70, 71, 74, 75, 76]
  live := [(10, [5, 6, 47, 48, 49])]
  roots := []
  rets := true
  glob := []
  sw := []
  msd := [47]
  alt := []
  fz := 0
  gc := false
  wk := false
  rt := false
  inv := []
@[simp] theorem h51_vars : h51.vars = [0, 2, 3, 4, 5, 6, 8, 9, 10, 47, 48, 49] := rfl
@[simp] theorem h51_conds : h51.conds = [30, 39, 44, 50, 56, 66] := rfl
@[simp] theorem h51_steal : h51.steal = [16, 21, 25, 26, 35, 40, 46, 53, 58, 60, 64, 67, 69, 70, 71, 74, 75, 76] := rfl
@[simp] theorem h51_live : h51.live = [(10, [5, 6, 47, 48, 49])] := rfl
@[simp] theorem h51_roots : h51.roots = [] := rfl
@[simp] theorem h51_rets : h51.rets = true := rfl
@[simp] theorem h51_glob : h51.glob = [] := rfl
@[simp] theorem h51_sw : h51.sw = [] := rfl
@[simp] theorem h51_msd : h51.msd = [47] := rfl
@[simp] theorem h51_alt : h51.alt = [] := rfl
@[simp] theorem h51_fz : h51.fz = 0 := rfl
@[simp] theorem h51_gc : h51.gc = false := rfl
@[simp] theorem h51_wk : h51.wk = false := rfl
@[simp] theorem h51_rt : h51.rt = false := rfl
@[simp] theorem h51_inv : h51.inv = [] := rfl
def h52 : Hint where
  vars := [0, 1, 2, 3, 4, 10, 11]
  conds := [12, 19, 26, 34]
  steal := [15, 16, 22, 23, 29, 30, 31, 37, 38, 39, 42]
  live := []
  roots := []
  rets := true
  glob := []
  sw := []
  msd := []
  alt := []
  fz := 0
  gc := true
  wk := true
  rt := false
  inv := []
@[simp] theorem h52_vars : h52.vars = [0, 1, 2, 3, 4, 10, 11] := rfl
@[simp] theorem h52_conds : h52.conds = [12, 19, 26, 34] := rfl
@[simp] theorem h52_steal : h52.steal = [15, 16, 22, 23, 29, 30, 31, 37, 38, 39, 42] := rfl
@[simp] theorem h52_live : h52.live = [] := rfl
@[simp] theorem h52_roots : h52.roots = [] := rfl
@[simp] theorem h52_rets : h52.rets = true := rfl
@[simp] theorem h52_glob : h52.glob = [] := rfl
@[simp] theorem h52_sw : h52.sw = [] := rfl
@[simp] theorem h52_msd : h52.msd = [] := rfl
@[simp] theorem h52_alt : h52.alt = [] := rfl
@[simp] theorem h52_fz : h52.fz = 0 := rfl
@[simp] theorem h52_gc : h52.gc = true := rfl
@[simp] theorem h52_wk : h52.wk = true := rfl
@[simp] theorem h52_rt : h52.rt = false := rfl
@[simp] theorem h52_inv : h52.inv = [] := rfl
def h53 : Hint where
  vars := [0, 2, 3]
  conds := [10]
  steal := [6, 11, 14, 15, 18]
  live := []
  roots := []
  rets := true
  glob := []
  sw := []
  msd := []
  alt := []
  fz := 0
  gc := false
  wk := false
  rt := false
  inv := []
@[simp] theorem h53_vars : h53.vars = [0, 2, 3] := rfl
@[simp] theorem h53_conds : h53.conds = [10] := rfl
@[simp] theorem h53_steal : h53.steal = [6, 11, 14, 15, 18] := rfl
@[simp] theorem h53_live : h53.live = [] := rfl
@[simp] theorem h53_roots : h53.roots = [] := rfl
@[simp] theorem h53_rets : h53.rets = true := rfl
@[simp] theorem h53_glob : h53.glob = [] := rfl
@[simp] theorem h53_sw : h53.sw = [] := rfl
@[simp] theorem h53_msd : h53.msd = [] := rfl
@[simp] theorem h53_alt : h53.alt = [] := rfl
@[simp] theorem h53_fz : h53.fz = 0 := rfl
@[simp] theorem h53_gc : h53.gc = false := rfl
@[simp] theorem h53_wk : h53.wk = false := rfl
@[simp] theorem h53_rt : h53.rt = false := rfl
@[simp] theorem h53_inv : h53.inv = [] := rfl
def h54 : Hint where
  vars := [0, 1, 4]
  conds := []
  steal := [26, 27]
  live := []
  roots := []
  rets := true
  glob := []
  sw := []
  msd := [25]
  alt := []
  fz := 0
  gc := false
  wk := false
  rt := false
  inv := []
@[simp] theorem h54_vars : h54.vars = [0, 1, 4] := rfl
@[simp] theorem h54_conds : h54.conds = [] := rfl
@[simp] theorem h54_steal : h54.steal = [26, 27] := rfl
@[simp] theorem h54_live : h54.live = [] := rfl
@[simp] theorem h54_roots : h54.roots = [] := rfl
@[simp] theorem h54_rets : h54.rets = true := rfl
@[simp] theorem h54_glob : h54.glob = [] := rfl
@[simp] theorem h54_sw : h54.sw = [] := rfl
@[simp] theorem h54_msd : h54.msd = [25] := rfl
@[simp] theorem h54_alt : h54.alt = [] := rfl
@[simp] theorem h54_fz : h54.fz = 0 := rfl
@[simp] theorem h54_gc : h54.gc = false := rfl
@[simp] theorem h54_wk : h54.wk = false := rfl
@[simp] theorem h54_rt : h54.rt = false := rfl
@[simp] theorem h54_inv : h54.inv = [] := rfl
def h56 : Hint where
  vars := [0, 2, 3, 4, 5, 6, 7, 8, 9, 10]
  conds := [11, 14]
  steal := [56, 64]
  live := [(3, [0, 2, 3, 10])]
  roots := [(42, 3), (45, 3), (49, 3), (70, 3), (76, 3), (81, 3)]
  rets := true
  glob := []
  sw := []
  msd := []
  alt := []
  fz := 0
  gc := false
  wk := false
  rt := false
  inv := []
@[simp] theorem h56_vars : h56.vars = [0, 2, 3, 4, 5, 6, 7, 8, 9, 10] := rfl
@[simp] theorem h56_conds : h56.conds = [11, 14] := rfl
@[simp] theorem h56_steal : h56.steal = [56, 64] := rfl
@[simp] theorem h56_live : h56.live = [(3, [0, 2, 3, 10])] := rfl
@[simp] theorem h56_roots : h56.roots = [(42, 3), (45, 3), (49, 3), (70, 3), (76, 3), (81, 3)] := rfl
@[simp] theorem h56_rets : h56.rets = true := rfl
@[simp] theorem h56_glob : h56.glob = [] := rfl
@[simp] theorem h56_sw : h56.sw = [] := rfl
@[simp] theorem h56_msd : h56.msd = [] := rfl
@[simp] theorem h56_alt : h56.alt = [] := rfl
@[simp] theorem h56_fz : h56.fz = 0 := rfl
@[simp] theorem h56_gc : h56.gc = false := rfl
@[simp] theorem h56_wk : h56.wk = false := rfl
@[simp] theorem h56_rt : h56.rt = false := rfl
@[simp] theorem h56_inv : h56.inv = [] := rfl
def h57 : Hint where
  vars := [0, 1, 4]
  conds := []
  steal := [5, 6]
  live := []
  roots := []
  rets := true
  glob := []
  sw := []
  msd := []
  alt := []
  fz := 0
  gc := false
  wk := false
  rt := false
  inv := []
@[simp] theorem h57_vars : h57.vars = [0, 1, 4] := rfl
@[simp] theorem h57_conds : h57.conds = [] := rfl
@[simp] theorem h57_steal : h57.steal = [5, 6] := rfl
@[simp] theorem h57_live : h57.live = [] := rfl
@[simp] theorem h57_roots : h57.roots = [] := rfl
@[simp] theorem h57_rets : h57.rets = true := rfl
@[simp] theorem h57_glob : h57.glob = [] := rfl
@[simp] theorem h57_sw : h57.sw = [] := rfl
@[simp] theorem h57_msd : h57.msd = [] := rfl
@[simp] theorem h57_alt : h57.alt = [] := rfl
@[simp] theorem h57_fz : h57.fz = 0 := rfl
@[simp] theorem h57_gc : h57.gc = false := rfl
@[simp] theorem h57_wk : h57.wk = false := rfl
@[simp] theorem h57_rt : h57.rt = false := rfl
@[simp] theorem h57_inv : h57.inv = [] := rfl
def h58 : Hint where
  vars := [0, 1, 4, 5, 6]
  conds := []
  steal := [7, 9, 15]
  live := []
  roots := []
  rets := true
  glob := []
  sw := []
  msd := []
  alt := []
  fz := 0
  gc := false
  wk := false
  rt := false
  inv := []
@[simp] theorem h58_vars : h58.vars = [0, 1, 4, 5, 6] := rfl
@[simp] theorem h58_conds : h58.conds = [] := rfl
@[simp] theorem h58_steal : h58.steal = [7, 9, 15] := rfl
@[simp] theorem h58_live : h58.live = [] := rfl
@[simp] theorem h58_roots : h58.roots = [] := rfl
@[simp] theorem h58_rets : h58.rets = true := rfl
@[simp] theorem h58_glob : h58.glob = [] := rfl
@[simp] theorem h58_sw : h58.sw = [] := rfl
@[simp] theorem h58_msd : h58.msd = [] := rfl
@[simp] theorem h58_alt : h58.alt = [] := rfl
@[simp] theorem h58_fz : h58.fz = 0 := rfl
@[simp] theorem h58_gc : h58.gc = false := rfl
@[simp] theorem h58_wk : h58.wk = false := rfl
@[simp] theorem h58_rt : h58.rt = false := rfl
@[simp] theorem h58_inv : h58.inv = [] := rfl
def h59 : Hint where
  vars := [0, 1, 4, 5, 6, 7, 8, 9, 10, 11, 12, 13]
  conds := []
  steal := [26, 28, 33, 35, 36, 40, 41, 43, 45, 48, 49]
  live := []
  roots := []
  rets := true
  glob := []
  sw := []
  msd := []
  alt := []
  fz := 0
  gc := false
  wk := false
  rt := false
  inv := []
@[simp] theorem h59_vars : h59.vars = [0, 1, 4, 5, 6, 7, 8, 9, 10, 11, 12, 13] := rfl
@[simp] theorem h59_conds : h59.conds = [] := rfl
@[simp] theorem h59_steal : h59.steal = [26, 28, 33, 35, 36, 40, 41, 43, 45, 48, 49] := rfl
@[simp] theorem h59_live : h59.live = [] := rfl
@[simp] theorem h59_roots : h59.roots = [] := rfl
@[simp] theorem h59_rets : h59.rets = true := rfl
@[simp] theorem h59_glob : h59.glob = [] := rfl
@[simp] theorem h59_sw : h59.sw = [] := rfl
@[simp] theorem h59_msd : h59.msd = [] := rfl
@[simp] theorem h59_alt : h59.alt = [] := rfl
@[simp] theorem h59_fz : h59.fz = 0 := rfl
@[simp] theorem h59_gc : h59.gc = false := rfl
@[simp] theorem h59_wk : h59.wk = false := rfl
@[simp] theorem h59_rt : h59.rt = false := rfl
@[simp] theorem h59_inv : h59.inv = [] := rfl
def h60 : Hint where
  vars := [0, 1, 4]
  conds := []
  steal := [10, 11, 15]
  live := []
  roots := []
  rets := true
  glob := []
  sw := []
  msd := []
  alt := []
  fz := 0
  gc := false
  wk := false
  rt := false
  inv := []
@[simp] theorem h60_vars : h60.vars = [0, 1, 4] := rfl
@[simp] theorem h60_conds : h60.conds = [] := rfl
@[simp] theorem h60_steal : h60.steal = [10, 11, 15] := rfl
@[simp] theorem h60_live : h60.live = [] := rfl
@[simp] theorem h60_roots : h60.roots = [] := rfl
@[simp] theorem h60_rets : h60.rets = true := rfl
@[simp] theorem h60_glob : h60.glob = [] := rfl
@[simp] theorem h60_sw : h60.sw = [] := rfl
@[simp] theorem h60_msd : h60.msd = [] := rfl
@[simp] theorem h60_alt : h60.alt = [] := rfl
@[simp] theorem h60_fz : h60.fz = 0 := rfl
@[simp] theorem h60_gc : h60.gc = false := rfl
@[simp] theorem h60_wk : h60.wk = false := rfl
@[simp] theorem h60_rt : h60.rt = false := rfl
@[simp] theorem h60_inv : h60.inv = [] := rfl
def h61 : Hint where
  vars := [0, 2]
  conds := [4]
  steal := [6, 11]
  live := []
  roots := []
  rets := true
  glob := []
  sw := []
  msd := []
  alt := []
  fz := 0
  gc := false
  wk := false
  rt := false
  inv := []
@[simp] theorem h61_vars : h61.vars = [0, 2] := rfl
@[simp] theorem h61_conds : h61.conds = [4] := rfl
@[simp] theorem h61_steal : h61.steal = [6, 11] := rfl
@[simp] theorem h61_live : h61.live = [] := rfl
@[simp] theorem h61_roots : h61.roots = [] := rfl
@[simp] theorem h61_rets : h61.rets = true := rfl
@[simp] theorem h61_glob : h61.glob = [] := rfl
@[simp] theorem h61_sw : h61.sw = [] := rfl
@[simp] theorem h61_msd : h61.msd = [] := rfl
@[simp] theorem h61_alt : h61.alt = [] := rfl
@[simp] theorem h61_fz : h61.fz = 0 := rfl
@[simp] theorem h61_gc : h61.gc = false := rfl
@[simp] theorem h61_wk : h61.wk = false := rfl
@[simp] theorem h61_rt : h61.rt = false := rfl
@[simp] theorem h61_inv : h61.inv = [] := rfl
def h62 : Hint where
  vars := [0, 2, 3]
  conds := []
  steal := [8, 9]
  live := []
  roots := []
  rets := true
  glob := []
  sw := []
  msd := []
  alt := []
  fz := 0
  gc := false
  wk := false
  rt := false
  inv := []
@[simp] theorem h62_vars : h62.vars = [0, 2, 3] := rfl
@[simp] theorem h62_conds : h62.conds = [] := rfl
@[simp] theorem h62_steal : h62.steal = [8, 9] := rfl
@[simp] theorem h62_live : h62.live = [] := rfl
@[simp] theorem h62_roots : h62.roots = [] := rfl
@[simp] theorem h62_rets : h62.rets = true := rfl
@[simp] theorem h62_glob : h62.glob = [] := rfl
@[simp] theorem h62_sw : h62.sw = [] := rfl
@[simp] theorem h62_msd : h62.msd = [] := rfl
@[simp] theorem h62_alt : h62.alt = [] := rfl
@[simp] theorem h62_fz : h62.fz = 0 := rfl
@[simp] theorem h62_gc : h62.gc = false := rfl
@[simp] theorem h62_wk : h62.wk = false := rfl
@[simp] theorem h62_rt : h62.rt = false := rfl
@[simp] theorem h62_inv : h62.inv = [] := rfl
def h63 : Hint where
  vars := [0, 1, 4, 5, 6, 7, 8, 9, 10, 11, 12, 13, 14, 15, 16]
  conds := [20, 99, 139, 161]
  steal := [24, 28, 33, 39, 94, 96, 102, 107, 136, 143, 158, 160, 162, 163]
  live := [(1, [0, 1, 4])]
  roots := []
  rets := true
  glob := []
  sw := [53, 54, 66, 67, 79, 80, 92, 93, 121, 122, 134, 135, 156, 157]
  msd := []
  alt := []
  fz := 0
  gc := false
  wk := false
  rt := false
  inv := []
@[simp] theorem h63_vars : h63.vars = [0, 1, 4, 5, 6, 7, 8, 9, 10, 11, 12, 13, 14, 15, 16] := rfl
@[simp] theorem h63_conds : h63.conds = [20, 99, 139, 161] := rfl
@[simp] theorem h63_steal : h63.steal = [24, 28, 33, 39, 94, 96, 102, 107, 136, 143, 158, 160, 162, 163] := rfl
@[simp] theorem h63_live : h63.live = [(1, [0, 1, 4])] := rfl
@[simp] theorem h63_roots : h63.roots = [] := rfl
@[simp] theorem h63_rets : h63.rets = true := rfl
@[simp] theorem h63_glob : h63.glob = [] := rfl
@[simp] theorem h63_sw : h63.sw = [53, 54, 66, 67, 79, 80, 92, 93, 121, 122, 134, 135, 156, 157] := rfl
@[simp] theorem h63_msd : h63.msd = [] := rfl
@[simp] theorem h63_alt : h63.alt = [] := rfl
@[simp] theorem h63_fz : h63.fz = 0 := rfl
@[simp] theorem h63_gc : h63.gc = false := rfl
@[simp] theorem h63_wk : h63.wk = false := rfl
@[simp] theorem h63_rt : h63.rt = false := rfl
@[simp] theorem h63_inv : h63.inv = [] := rfl
def h64 : Hint where
  vars := [0, 1, 2, 3, 4, 10, 11, 12, 13, 14, 15, 16, 17, 18]
  conds := [28, 30, 34, 46, 68, 89, 94]
  steal := [21, 25, 31, 41, 47, 55, 58, 61, 64, 69, 75, 82, 83, 86, 89, 90, 94, 95, 96, 99]
  live := [(11, [0, 1, 3, 4, 10, 11, 12, 13, 14, 15, 16]), (18, [0, 1, 3, 4, 10, 11, 12, 13, 17])]
  roots := []
  rets := true
  glob := [12]
  sw := []
  msd := []
  alt := []
  fz := 0
  gc := true
  wk := false
  rt := false
  inv := []
@[simp] theorem h64_vars : h64.vars = [0, 1, 2, 3, 4, 10, 11, 12, 13, 14, 15, 16, 17, 18] := rfl
@[simp] theorem h64_conds : h64.conds = [28, 30, 34, 46, 68, 89, 94] := rfl
@[simp] theorem h64_steal : h64.steal = [21, 25, 31, 41, 47, 55, 58, 61, 64, 69, 75, 82, 83, 86, 89, 90, 94, 95, 96, 99] := rfl
@[simp] theorem h64_live : h64.live = [(11, [0, 1, 3, 4, 10, 11, 12, 13, 14, 15, 16]), (18, [0, 1, 3, 4, 10, 11, 12, 13, 17])] := rfl
@[simp] theorem h64_roots : h64.roots = [] := rfl
@[simp] theorem h64_rets : h64.rets = true := rfl
@[simp] theorem h64_glob : h64.glob = [12] := rfl
@[simp] theorem h64_sw : h64.sw = [] := rfl
@[simp] theorem h64_msd : h64.msd = [] := rfl
@[simp] theorem h64_alt : h64.alt = [] := rfl
@[simp] theorem h64_fz : h64.fz = 0 := rfl
@[simp] theorem h64_gc : h64.gc = true := rfl
@[simp] theorem h64_wk : h64.wk = false := rfl
@[simp] theorem h64_rt : h64.rt = false := rfl
@[simp] theorem h64_inv : h64.inv = [] := rfl
def h65 : Hint where
  vars := [0, 1, 4]
  conds := []
  steal := [5, 6]
  live := []
  roots := []
  rets := true
  glob := []
  sw := []
  msd := []
  alt := []
  fz := 0
  gc := false
  wk := false
  rt := false
  inv := []
@[simp] theorem h65_vars : h65.vars = [0, 1, 4] := rfl
@[simp] theorem h65_conds : h65.conds = [] := rfl
@[simp] theorem h65_steal : h65.steal = [5, 6] := rfl
@[simp] theorem h65_live : h65.live = [] := rfl
@[simp] theorem h65_roots : h65.roots = [] := rfl
@[simp] theorem h65_rets : h65.rets = true := rfl
@[simp] theorem h65_glob : h65.glob = [] := rfl
@[simp] theorem h65_sw : h65.sw = [] := rfl
@[simp] theorem h65_msd : h65.msd = [] := rfl
@[simp] theorem h65_alt : h65.alt = [] := rfl
@[simp] theorem h65_fz : h65.fz = 0 := rfl
@[simp] theorem h65_gc : h65.gc = false := rfl
@[simp] theorem h65_wk : h65.wk = false := rfl
@[simp] theorem h65_rt : h65.rt = false := rfl
@[simp] theorem h65_inv : h65.inv = [] := rfl
def h67 : Hint where
  vars := [0, 2]
  conds := []
  steal := [3]
  live := []
  roots := []
  rets := true
  glob := []
  sw := []
  msd := []
  alt := []
  fz := 0
  gc := false
  wk := false
  rt := false
  inv := []
@[simp] theorem h67_vars : h67.vars = [0, 2] := rfl
@[simp] theorem h67_conds : h67.conds = [] := rfl
@[simp] theorem h67_steal : h67.steal = [3] := rfl
@[simp] theorem h67_live : h67.live = [] := rfl
@[simp] theorem h67_roots : h67.roots = [] := rfl
@[simp] theorem h67_rets : h67.rets = true := rfl
@[simp] theorem h67_glob : h67.glob = [] := rfl
@[simp] theorem h67_sw : h67.sw = [] := rfl
@[simp] theorem h67_msd : h67.msd = [] := rfl
@[simp] theorem h67_alt : h67.alt = [] := rfl
@[simp] theorem h67_fz : h67.fz = 0 := rfl
@[simp] theorem h67_gc : h67.gc = false := rfl
@[simp] theorem h67_wk : h67.wk = false := rfl
@[simp] theorem h67_rt : h67.rt = false := rfl
@[simp] theorem h67_inv : h67.inv = [] := rfl
def h68 : Hint where
  vars := [0, 1, 4, 5, 6, 7, 8, 9, 10]
  conds := [20, 39, 44, 77]
  steal := [11, 15, 21, 23, 33, 45, 47, 53, 63, 68, 78, 79]
  live := [(5, [0, 1, 5, 6, 7, 8, 9]), (11, [0, 1, 5, 6, 7, 8, 10])]
  roots := []
  rets := true
  glob := []
  sw := []
  msd := []
  alt := []
  fz := 0
  gc := false
  wk := false
  rt := false
  inv := []
@[simp] theorem h68_vars : h68.vars = [0, 1, 4, 5, 6, 7, 8, 9, 10] := rfl
@[simp] theorem h68_conds : h68.conds = [20, 39, 44, 77] := rfl
@[simp] theorem h68_steal : h68.steal = [11, 15, 21, 23, 33, 45, 47, 53, 63, 68, 78, 79] := rfl
@[simp] theorem h68_live : h68.live = [(5, [0, 1, 5, 6, 7, 8, 9]), (11, [0, 1, 5, 6, 7, 8, 10])] := rfl
@[simp] theorem h68_roots : h68.roots = [] := rfl
@[simp] theorem h68_rets : h68.rets = true := rfl
@[simp] theorem h68_glob : h68.glob = [] := rfl
@[simp] theorem h68_sw : h68.sw = [] := rfl
@[simp] theorem h68_msd : h68.msd = [] := rfl
@[simp] theorem h68_alt : h68.alt = [] := rfl
@[simp] theorem h68_fz : h68.fz = 0 := rfl
@[simp] theorem h68_gc : h68.gc = false := rfl
@[simp] theorem h68_wk : h68.wk = false := rfl
@[simp] theorem h68_rt : h68.rt = false := rfl
@[simp] theorem h68_inv : h68.inv = [] := rfl
def h69 : Hint where
  vars := [0, 2, 4]
  conds := [6]
  steal := [3, 6, 7, 9]
  live := [(2, [2, 4])]
  roots := []
  rets := true
  glob := []
  sw := []
  msd := []
  alt := []
  fz := 0
  gc := false
  wk := false
  rt := false
  inv := []
@[simp] theorem h69_vars : h69.vars = [0, 2, 4] := rfl
@[simp] theorem h69_conds : h69.conds = [6] := rfl
@[simp] theorem h69_steal : h69.steal = [3, 6, 7, 9] := rfl
@[simp] theorem h69_live : h69.live = [(2, [2, 4])] := rfl
@[simp] theorem h69_roots : h69.roots = [] := rfl
@[simp] theorem h69_rets : h69.rets = true := rfl
@[simp] theorem h69_glob : h69.glob = [] := rfl
@[simp] theorem h69_sw : h69.sw = [] := rfl
@[simp] theorem h69_msd : h69.msd = [] := rfl
@[simp] theorem h69_alt : h69.alt = [] := rfl
@[simp] theorem h69_fz : h69.fz = 0 := rfl
@[simp] theorem h69_gc : h69.gc = false := rfl
@[simp] theorem h69_wk : h69.wk = false := rfl
@[simp] theorem h69_rt : h69.rt = false := rfl
@[simp] theorem h69_inv : h69.inv = [] := rfl
def h71 : Hint where
  vars := [0, 1, 2, 6, 7, 8, 9, 10, 11, 16]
  conds := [13, 17, 21, 38, 41, 52, 62, 69]
  steal := [19, 23, 25, 26, 27, 31, 34, 39, 42, 48, 53, 58, 63, 67, 69, 70, 72]
  live := []
  roots := []
  rets := true
  glob := []
  sw := []
  msd := []
  alt := []
  fz := 0
  gc := false
  wk := false
  rt := false
  inv := []
@[simp] theorem h71_vars : h71.vars = [0, 1, 2, 6, 7, 8, 9, 10, 11, 16] := rfl
@[simp] theorem h71_conds : h71.conds = [13, 17, 21, 38, 41, 52, 62, 69] := rfl
@[simp] theorem h71_steal : h71.steal = [19, 23, 25, 26, 27, 31, 34, 39, 42, 48, 53, 58, 63, 67, 69, 70, 72] := rfl
@[simp] theorem h71_live : h71.live = [] := rfl
@[simp] theorem h71_roots : h71.roots = [] := rfl
@[simp] theorem h71_rets : h71.rets = true := rfl
@[simp] theorem h71_glob : h71.glob = [] := rfl
@[simp] theorem h71_sw : h71.sw = [] := rfl
@[simp] theorem h71_msd : h71.msd = [] := rfl
@[simp] theorem h71_alt : h71.alt = [] := rfl
@[simp] theorem h71_fz : h71.fz = 0 := rfl
@[simp] theorem h71_gc : h71.gc = false := rfl
@[simp] theorem h71_wk : h71.wk = false := rfl
@[simp] theorem h71_rt : h71.rt = false := rfl
@[simp] theorem h71_inv : h71.inv = [] := rfl
def h72 : Hint where
  vars := [0, 1, 4]
  conds := []
  steal := []
  live := []
  roots := []
  rets := true
  glob := [10]
  sw := []
  msd := []
  alt := []
  fz := 0
  gc := false
  wk := false
  rt := false
  inv := []
@[simp] theorem h72_vars : h72.vars = [0, 1, 4] := rfl
@[simp] theorem h72_conds : h72.conds = [] := rfl
@[simp] theorem h72_steal : h72.steal = [] := rfl
@[simp] theorem h72_live : h72.live = [] := rfl
@[simp] theorem h72_roots : h72.roots = [] := rfl
@[simp] theorem h72_rets : h72.rets = true := rfl
@[simp] theorem h72_glob : h72.glob = [10] := rfl
@[simp] theorem h72_sw : h72.sw = [] := rfl
@[simp] theorem h72_msd : h72.msd = [] := rfl
@[simp] theorem h72_alt : h72.alt = [] := rfl
@[simp] theorem h72_fz : h72.fz = 0 := rfl
@[simp] theorem h72_gc : h72.gc = false := rfl
@[simp] theorem h72_wk : h72.wk = false := rfl
@[simp] theorem h72_rt : h72.rt = false := rfl
@[simp] theorem h72_inv : h72.inv = [] := rfl
def h73 : Hint where
  vars := [0, 1, 4]
  conds := []
  steal := []
  live := []
  roots := []
  rets := true
  glob := [10]
  sw := []
  msd := []
  alt := []
  fz := 0
  gc := false
  wk := false
  rt := false
  inv := []
@[simp] theorem h73_vars : h73.vars = [0, 1, 4] := rfl
@[simp] theorem h73_conds : h73.conds = [] := rfl
@[simp] theorem h73_steal : h73.steal = [] := rfl
@[simp] theorem h73_live : h73.live = [] := rfl
@[simp] theorem h73_roots : h73.roots = [] := rfl
@[simp] theorem h73_rets : h73.rets = true := rfl
@[simp] theorem h73_glob : h73.glob = [10] := rfl
@[simp] theorem h73_sw : h73.sw = [] := rfl
@[simp] theorem h73_msd : h73.msd = [] := rfl
@[simp] theorem h73_alt : h73.alt = [] := rfl
@[simp] theorem h73_fz : h73.fz = 0 := rfl
@[simp] theorem h73_gc : h73.gc = false := rfl
@[simp] theorem h73_wk : h73.wk = false := rfl
@[simp] theorem h73_rt : h73.rt = false := rfl
@[simp] theorem h73_inv : h73.inv = [] := rfl
def h74 : Hint where
  vars := [0, 1, 2, 6]
  conds := []
  steal := [7, 8, 10]
  live := []
  roots := []
  rets := true
  glob := [15]
  sw := []
  msd := []
  alt := []
  fz := 0
  gc := false
  wk := false
  rt := false
  inv := []
@[simp] theorem h74_vars : h74.vars = [0, 1, 2, 6] := rfl
@[simp] theorem h74_conds : h74.conds = [] := rfl
@[simp] theorem h74_steal : h74.steal = [7, 8, 10] := rfl
@[simp] theorem h74_live : h74.live = [] := rfl
@[simp] theorem h74_roots : h74.roots = [] := rfl
@[simp] theorem h74_rets : h74.rets = true := rfl
@[simp] theorem h74_glob : h74.glob = [15] := rfl
@[simp] theorem h74_sw : h74.sw = [] := rfl
@[simp] theorem h74_msd : h74.msd = [] := rfl
@[simp] theorem h74_alt : h74.alt = [] := rfl
@[simp] theorem h74_fz : h74.fz = 0 := rfl
@[simp] theorem h74_gc : h74.gc = false := rfl
@[simp] theorem h74_wk : h74.wk = false := rfl
@[simp] theorem h74_rt : h74.rt = false := rfl
@[simp] theorem h74_inv : h74.inv = [] := rfl
def h75 : Hint where
  vars := [0, 1, 2, 6]
  conds := []
  steal := [7, 8, 10]
  live := []
  roots := []
  rets := true
  glob := [15]
  sw := []
  msd := []
  alt := []
  fz := 0
  gc := false
  wk := false
  rt := false
  inv := []
@[simp] theorem h75_vars : h75.vars = [0, 1, 2, 6] := rfl
@[simp] theorem h75_conds : h75.conds = [] := rfl
@[simp] theorem h75_steal : h75.steal = [7, 8, 10] := rfl
@[simp] theorem h75_live : h75.live = [] := rfl
@[simp] theorem h75_roots : h75.roots = [] := rfl
@[simp] theorem h75_rets : h75.rets = true := rfl
@[simp] theorem h75_glob : h75.glob = [15] := rfl
@[simp] theorem h75_sw : h75.sw = [] := rfl
@[simp] theorem h75_msd : h75.msd = [] := rfl
@[simp] theorem h75_alt : h75.alt = [] := rfl
@[simp] theorem h75_fz : h75.fz = 0 := rfl
@[simp] theorem h75_gc : h75.gc = false := rfl
@[simp] theorem h75_wk : h75.wk = false := rfl
@[simp] theorem h75_rt : h75.rt = false := rfl
@[simp] theorem h75_inv : h75.inv = [] := rfl
def h76 : Hint where
  vars := [0, 2, 3, 4, 5, 6, 7, 8, 9, 10, 11, 12]
  conds := [16, 23, 45, 57, 59, 75, 77, 98]
  steal := [24, 28, 33, 39, 43, 52, 60, 64, 72, 76, 78, 82, 87, 91, 95, 99, 103, 108, 113]
  live := []
  roots := []
  rets := true
  glob := []
  sw := []
  msd := []
  alt := []
  fz := 0
  gc := false
  wk := false
  rt := false
  inv := []
@[simp] theorem h76_vars : h76.vars = [0, 2, 3, 4, 5, 6, 7, 8, 9, 10, 11, 12] := rfl
@[simp] theorem h76_conds : h76.conds = [16, 23, 45, 57, 59, 75, 77, 98] := rfl
@[simp] theorem h76_steal : h76.steal = [24, 28, 33, 39, 43, 52, 60, 64, 72, 76, 78, 82, 87, 91, 95, 99, 103, 108, 113] := rfl
@[simp] theorem h76_live : h76.live = [] := rfl
@[simp] theorem h76_roots : h76.roots = [] := rfl
@[simp] theorem h76_rets : h76.rets = true := rfl
@[simp] theorem h76_glob : h76.glob = [] := rfl
@[simp] theorem h76_sw : h76.sw = [] := rfl
@[simp] theorem h76_msd : h76.msd = [] := rfl
@[simp] theorem h76_alt : h76.alt = [] := rfl
@[simp] theorem h76_fz : h76.fz = 0 := rfl
@[simp] theorem h76_gc : h76.gc = false := rfl
@[simp] theorem h76_wk : h76.wk = false := rfl
@[simp] theorem h76_rt : h76.rt = false := rfl
@[simp] theorem h76_inv : h76.inv = [] := rfl
def h78 : Hint where
  vars := [0, 1, 4, 5]
  conds := []
  steal := [6, 12, 13]
  live := []
  roots := []
  rets := true
  glob := []
  sw := []
  msd := []
  alt := []
  fz := 0
  gc := false
  wk := false
  rt := false
  inv := []
@[simp] theorem h78_vars : h78.vars = [0, 1, 4, 5] := rfl
@[simp] theorem h78_conds : h78.conds = [] := rfl
@[simp] theorem h78_steal : h78.steal = [6, 12, 13] := rfl
@[simp] theorem h78_live : h78.live = [] := rfl
@[simp] theorem h78_roots : h78.roots = [] := rfl
@[simp] theorem h78_rets : h78.rets = true := rfl
@[simp] theorem h78_glob : h78.glob = [] := rfl
@[simp] theorem h78_sw : h78.sw = [] := rfl
@[simp] theorem h78_msd : h78.msd = [] := rfl
@[simp] theorem h78_alt : h78.alt = [] := rfl
@[simp] theorem h78_fz : h78.fz = 0 := rfl
@[simp] theorem h78_gc : h78.gc = false := rfl
@[simp] theorem h78_wk : h78.wk = false := rfl
@[simp] theorem h78_rt : h78.rt = false := rfl
@[simp] theorem h78_inv : h78.inv = [] := rfl
def h79 : Hint where
  vars := [0, 2]
  conds := []
  steal := [3]
  live := []
  roots := []
  rets := true
  glob := []
  sw := []
  msd := []
  alt := []
  fz := 0
  gc := false
  wk := false
  rt := false
  inv := []
@[simp] theorem h79_vars : h79.vars = [0, 2] := rfl
@[simp] theorem h79_conds : h79.conds = [] := rfl
@[simp] theorem h79_steal : h79.steal = [3] := rfl
@[simp] theorem h79_live : h79.live = [] := rfl
@[simp] theorem h79_roots : h79.roots = [] := rfl
@[simp] theorem h79_rets : h79.rets = true := rfl
@[simp] theorem h79_glob : h79.glob = [] := rfl
@[simp] theorem h79_sw : h79.sw = [] := rfl
@[simp] theorem h79_msd : h79.msd = [] := rfl
@[simp] theorem h79_alt : h79.alt = [] := rfl
@[simp] theorem h79_fz : h79.fz = 0 := rfl
@[simp] theorem h79_gc : h79.gc = false := rfl
@[simp] theorem h79_wk : h79.wk = false := rfl
@[simp] theorem h79_rt : h79.rt = false := rfl
@[simp] theorem h79_inv : h79.inv = [] := rfl
def h80 : Hint where
  vars := [0, 2]
  conds := [4, 8, 14]
  steal := [5, 9, 11, 15, 17, 19, 20]
  live := []
  roots := []
  rets := true
  glob := []
  sw := []
  msd := []
  alt := []
  fz := 0
  gc := false
  wk := false
  rt := false
  inv := []
@[simp] theorem h80_vars : h80.vars = [0, 2] := rfl
@[simp] theorem h80_conds : h80.conds = [4, 8, 14] := rfl
@[simp] theorem h80_steal : h80.steal = [5, 9, 11, 15, 17, 19, 20] := rfl
@[simp] theorem h80_live : h80.live = [] := rfl
@[simp] theorem h80_roots : h80.roots = [] := rfl
@[simp] theorem h80_rets : h80.rets = true := rfl
@[simp] theorem h80_glob : h80.glob = [] := rfl
@[simp] theorem h80_sw : h80.sw = [] := rfl
@[simp] theorem h80_msd : h80.msd = [] := rfl
@[simp] theorem h80_alt : h80.alt = [] := rfl
@[simp] theorem h80_fz : h80.fz = 0 := rfl
@[simp] theorem h80_gc : h80.gc = false := rfl
@[simp] theorem h80_wk : h80.wk = false := rfl
@[simp] theorem h80_rt : h80.rt = false := rfl
@[simp] theorem h80_inv : h80.inv = [] := rfl
def h81 : Hint where
  vars := [0, 2]
  conds := [3]
  steal := [3]
  live := []
  roots := []
  rets := true
  glob := []
  sw := []
  msd := []
  alt := []
  fz := 0
  gc := false
  wk := false
  rt := false
  inv := []
@[simp] theorem h81_vars : h81.vars = [0, 2] := rfl
@[simp] theorem h81_conds : h81.conds = [3] := rfl
@[simp] theorem h81_steal : h81.steal = [3] := rfl
@[simp] theorem h81_live : h81.live = [] := rfl
@[simp] theorem h81_roots : h81.roots = [] := rfl
@[simp] theorem h81_rets : h81.rets = true := rfl
@[simp] theorem h81_glob : h81.glob = [] := rfl
@[simp] theorem h81_sw : h81.sw = [] := rfl
@[simp] theorem h81_msd : h81.msd = [] := rfl
@[simp] theorem h81_alt : h81.alt = [] := rfl
@[simp] theorem h81_fz : h81.fz = 0 := rfl
@[simp] theorem h81_gc : h81.gc = false := rfl
@[simp] theorem h81_wk : h81.wk = false := rfl
@[simp] theorem h81_rt : h81.rt = false := rfl
@[simp] theorem h81_inv : h81.inv = [] := rfl
def h82 : Hint where
  vars := [0, 2]
  conds := []
  steal := [4]
  live := []
  roots := []
  rets := true
  glob := []
  sw := []
  msd := []
  alt := []
  fz := 0
  gc := false
  wk := false
  rt := false
  inv := []
@[simp] theorem h82_vars : h82.vars = [0, 2] := rfl
@[simp] theorem h82_conds : h82.conds = [] := rfl
@[simp] theorem h82_steal : h82.steal = [4] := rfl
@[simp] theorem h82_live : h82.live = [] := rfl
@[simp] theorem h82_roots : h82.roots = [] := rfl
@[simp] theorem h82_rets : h82.rets = true := rfl
@[simp] theorem h82_glob : h82.glob = [] := rfl
@[simp] theorem h82_sw : h82.sw = [] := rfl
@[simp] theorem h82_msd : h82.msd = [] := rfl
@[simp] theorem h82_alt : h82.alt = [] := rfl
@[simp] theorem h82_fz : h82.fz = 0 := rfl
@[simp] theorem h82_gc : h82.gc = false := rfl
@[simp] theorem h82_wk : h82.wk = false := rfl
@[simp] theorem h82_rt : h82.rt = false := rfl
@[simp] theorem h82_inv : h82.inv = [] := rfl
def h83 : Hint where
  vars := [0, 2]
  conds := []
  steal := [3, 6]
  live := []
  roots := []
  rets := true
  glob := []
  sw := []
  msd := []
  alt := []
  fz := 0
  gc := false
  wk := false
  rt := false
  inv := []
@[simp] theorem h83_vars : h83.vars = [0, 2] := rfl
@[simp] theorem h83_conds : h83.conds = [] := rfl
@[simp] theorem h83_steal : h83.steal = [3, 6] := rfl
@[simp] theorem h83_live : h83.live = [] := rfl
@[simp] theorem h83_roots : h83.roots = [] := rfl
@[simp] theorem h83_rets : h83.rets = true := rfl
@[simp] theorem h83_glob : h83.glob = [] := rfl
@[simp] theorem h83_sw : h83.sw = [] := rfl
@[simp] theorem h83_msd : h83.msd = [] := rfl
@[simp] theorem h83_alt : h83.alt = [] := rfl
@[simp] theorem h83_fz : h83.fz = 0 := rfl
@[simp] theorem h83_gc : h83.gc = false := rfl
@[simp] theorem h83_wk : h83.wk = false := rfl
@[simp] theorem h83_rt : h83.rt = false := rfl
@[simp] theorem h83_inv : h83.inv = [] := rfl
def h85 : Hint where
  vars := [0, 2, 3, 4, 5, 6, 7, 8]
  conds := [12, 25, 30]
  steal := [13, 15, 22, 26, 31, 35, 37, 38]
  live := [(3, [0, 4, 5]), (8, [4, 6, 7, 8])]
  roots := []
  rets := true
  glob := []
  sw := []
  msd := []
  alt := []
  fz := 0
  gc := false
  wk := false
  rt := false
  inv := []
@[simp] theorem h85_vars : h85.vars = [0, 2, 3, 4, 5, 6, 7, 8] := rfl
@[simp] theorem h85_conds : h85.conds = [12, 25, 30] := rfl
@[simp] theorem h85_steal : h85.steal = [13, 15, 22, 26, 31, 35, 37, 38] := rfl
@[simp] theorem h85_live : h85.live = [(3, [0, 4, 5]), (8, [4, 6, 7, 8])] := rfl
@[simp] theorem h85_roots : h85.roots = [] := rfl
@[simp] theorem h85_rets : h85.rets = true := rfl
@[simp] theorem h85_glob : h85.glob = [] := rfl
@[simp] theorem h85_sw : h85.sw = [] := rfl
@[simp] theorem h85_msd : h85.msd = [] := rfl
@[simp] theorem h85_alt : h85.alt = [] := rfl
@[simp] theorem h85_fz : h85.fz = 0 := rfl
@[simp] theorem h85_gc : h85.gc = false := rfl
@[simp] theorem h85_wk : h85.wk = false := rfl
@[simp] theorem h85_rt : h85.rt = false := rfl
@[simp] theorem h85_inv : h85.inv = [] := rfl
def h86 : Hint where
  vars := [0, 1, 2, 6, 7, 8, 9, 10, 11, 12, 13, 15, 16, 17, 85, 99, 100, 101]
  conds := [19, 25, 32, 37, 40, 52, 64, 77, 83, 90, 92, 102, 106, 112, 121, 137, 141, 159, 169]
  steal := [28, 33, 38, 44, 50, 56, 62, 68, 74, 80, 94, 98, 109, 115, 119, 125, 130, 142, 144, 149, 153, 155, 160, 162, 164, 165, 166, 171]
  live := [(36, [1, 8, 9, 10, 11, 12, 13, 99, 100, 101])]
  roots := []
  rets := true
  glob := []
  sw := []
  msd := [99]
  alt := []
  fz := 0
  gc := false
  wk := false
  rt := false
  inv := []
@[simp] theorem h86_vars : h86.vars = [0, 1, 2, 6, 7, 8, 9, 10, 11, 12, 13, 15, 16, 17, 85, 99, 100, 101] := rfl
@[simp] theorem h86_conds : h86.conds = [19, 25, 32, 37, 40, 52, 64, 77, 83, 90, 92, 102, 106, 112, 121, 137, 141, 159, 169] := rfl
@[simp] theorem h86_steal : h86.steal = [28, 33, 38, 44, 50, 56, 62, 68, 74, 80, 94, 98, 109, 115, 119, 125, 130, 142, 144, 149, 153, 155, 160, 162, 164, 165, 166, 171] := rfl
@[simp] theorem h86_live : h86.live = [(36, [1, 8, 9, 10, 11, 12, 13, 99, 100, 101])] := rfl
@[simp] theorem h86_roots : h86.roots = [] := rfl
@[simp] theorem h86_rets : h86.rets = true := rfl
@[simp] theorem h86_glob : h86.glob = [] := rfl
@[simp] theorem h86_sw : h86.sw = [] := rfl
@[simp] theorem h86_msd : h86.msd = [99] := rfl
@[simp] theorem h86_alt : h86.alt = [] := rfl
@[simp] theorem h86_fz : h86.fz = 0 := rfl
@[simp] theorem h86_gc : h86.gc = false := rfl
@[simp] theorem h86_wk : h86.wk = false := rfl
@[simp] theorem h86_rt : h86.rt = false := rfl
@[simp] theorem h86_inv : h86.inv = [] := rfl
def h87 : Hint where
  vars := [0, 2, 3]
  conds := [6]
  steal := [11, 15]
  live := []
  roots := []
  rets := true
  glob := [9]
  sw := []
  msd := [9, 12]
  alt := []
  fz := 0
  gc := true
  wk := false
  rt := false
  inv := []
@[simp] theorem h87_vars : h87.vars = [0, 2, 3] := rfl
@[simp] theorem h87_conds : h87.conds = [6] := rfl
@[simp] theorem h87_steal : h87.steal = [11, 15] := rfl
@[simp] theorem h87_live : h87.live = [] := rfl
@[simp] theorem h87_roots : h87.roots = [] := rfl
@[simp] theorem h87_rets : h87.rets = true := rfl
@[simp] theorem h87_glob : h87.glob = [9] := rfl
@[simp] theorem h87_sw : h87.sw = [] := rfl
@[simp] theorem h87_msd : h87.msd = [9, 12] := rfl
@[simp] theorem h87_alt : h87.alt = [] := rfl
@[simp] theorem h87_fz : h87.fz = 0 := rfl
@[simp] theorem h87_gc : h87.gc = true := rfl
@[simp] theorem h87_wk : h87.wk = false := rfl
@[simp] theorem h87_rt : h87.rt = false := rfl
@[simp] theorem h87_inv : h87.inv = [] := rfl
def h88 : Hint where
  vars := [0, 2]
  conds := []
  steal := [3]
  live := []
  roots := []
  rets := true
  glob := [5]
  sw := []
  msd := []
  alt := []
  fz := 0
  gc := true
  wk := true
  rt := false
  inv := []
@[simp] theorem h88_vars : h88.vars = [0, 2] := rfl
@[simp] theorem h88_conds : h88.conds = [] := rfl
@[simp] theorem h88_steal : h88.steal = [3] := rfl
@[simp] theorem h88_live : h88.live = [] := rfl
@[simp] theorem h88_roots : h88.roots = [] := rfl
@[simp] theorem h88_rets : h88.rets = true := rfl
@[simp] theorem h88_glob : h88.glob = [5] := rfl
@[simp] theorem h88_sw : h88.sw = [] := rfl
@[simp] theorem h88_msd : h88.msd = [] := rfl
@[simp] theorem h88_alt : h88.alt = [] := rfl
@[simp] theorem h88_fz : h88.fz = 0 := rfl
@[simp] theorem h88_gc : h88.gc = true := rfl
@[simp] theorem h88_wk : h88.wk = true := rfl
@[simp] theorem h88_rt : h88.rt = false := rfl
@[simp] theorem h88_inv : h88.inv = [] := rfl
def h89 : Hint where
  vars := [0, 2]
  conds := [4]
  steal := [6]
  live := []
  roots := []
  rets := true
  glob := []
  sw := []
  msd := []
  alt := []
  fz := 0
  gc := false
  wk := false
  rt := false
  inv := []
@[simp] theorem h89_vars : h89.vars = [0, 2] := rfl
@[simp] theorem h89_conds : h89.conds = [4] := rfl
@[simp] theorem h89_steal : h89.steal = [6] := rfl
@[simp] theorem h89_live : h89.live = [] := rfl
@[simp] theorem h89_roots : h89.roots = [] := rfl
@[simp] theorem h89_rets : h89.rets = true := rfl
@[simp] theorem h89_glob : h89.glob = [] := rfl
@[simp] theorem h89_sw : h89.sw = [] := rfl
@[simp] theorem h89_msd : h89.msd = [] := rfl
@[simp] theorem h89_alt : h89.alt = [] := rfl
@[simp] theorem h89_fz : h89.fz = 0 := rfl
@[simp] theorem h89_gc : h89.gc = false := rfl
@[simp] theorem h89_wk : h89.wk = false := rfl
@[simp] theorem h89_rt : h89.rt = false := rfl
@[simp] theorem h89_inv : h89.inv = [] := rfl
def h90 : Hint where
  vars := [0, 2]
  conds := [4]
  steal := [6]
  live := []
  roots := []
  rets := true
  glob := []
  sw := []
  msd := []
  alt := []
  fz := 0
  gc := false
  wk := false
  rt := false
  inv := []
@[simp] theorem h90_vars : h90.vars = [0, 2] := rfl
@[simp] theorem h90_conds : h90.conds = [4] := rfl
@[simp] theorem h90_steal : h90.steal = [6] := rfl
@[simp] theorem h90_live : h90.live = [] := rfl
@[simp] theorem h90_roots : h90.roots = [] := rfl
@[simp] theorem h90_rets : h90.rets = true := rfl
@[simp] theorem h90_glob : h90.glob = [] := rfl
@[simp] theorem h90_sw : h90.sw = [] := rfl
@[simp] theorem h90_msd : h90.msd = [] := rfl
@[simp] theorem h90_alt : h90.alt = [] := rfl
@[simp] theorem h90_fz : h90.fz = 0 := rfl
@[simp] theorem h90_gc : h90.gc = false := rfl
@[simp] theorem h90_wk : h90.wk = false := rfl
@[simp] theorem h90_rt : h90.rt = false := rfl
@[simp] theorem h90_inv : h90.inv = [] := rfl
def h91 : Hint where
  vars := [0, 2]
  conds := []
  steal := [3]
  live := []
  roots := []
  rets := true
  glob := []
  sw := []
  msd := []
  alt := []
  fz := 0
  gc := false
  wk := false
  rt := false
  inv := []
@[simp] theorem h91_vars : h91.vars = [0, 2] := rfl
@[simp] theorem h91_conds : h91.conds = [] := rfl
@[simp] theorem h91_steal : h91.steal = [3] := rfl
@[simp] theorem h91_live : h91.live = [] := rfl
@[simp] theorem h91_roots : h91.roots = [] := rfl
@[simp] theorem h91_rets : h91.rets = true := rfl
@[simp] theorem h91_glob : h91.glob = [] := rfl
@[simp] theorem h91_sw : h91.sw = [] := rfl
@[simp] theorem h91_msd : h91.msd = [] := rfl
@[simp] theorem h91_alt : h91.alt = [] := rfl
@[simp] theorem h91_fz : h91.fz = 0 := rfl
@[simp] theorem h91_gc : h91.gc = false := rfl
@[simp] theorem h91_wk : h91.wk = false := rfl
@[simp] theorem h91_rt : h91.rt = false := rfl
@[simp] theorem h91_inv : h91.inv = [] := rfl
def h92 : Hint where
  vars := [0, 2, 3, 4, 5]
  conds := [18, 46, 54, 83, 87, 89, 91]
  steal := [9, 13, 19, 24, 29, 34, 40, 55, 61, 67, 69, 76, 88, 90, 92]
  live := [(10, [0, 3, 4, 5])]
  roots := []
  rets := true
  glob := []
  sw := []
  msd := []
  alt := []
  fz := 0
  gc := false
  wk := false
  rt := false
  inv := []
@[simp] theorem h92_vars : h92.vars = [0, 2, 3, 4, 5] := rfl
@[simp] theorem h92_conds : h92.conds = [18, 46, 54, 83, 87, 89, 91] := rfl
@[simp] theorem h92_steal : h92.steal = [9, 13, 19, 24, 29, 34, 40, 55, 61, 67, 69, 76, 88, 90, 92] := rfl
@[simp] theorem h92_live : h92.live = [(10, [0, 3, 4, 5])] := rfl
@[simp] theorem h92_roots : h92.roots = [] := rfl
@[simp] theorem h92_rets : h92.rets = true := rfl
@[simp] theorem h92_glob : h92.glob = [] := rfl
@[simp] theorem h92_sw : h92.sw = [] := rfl
@[simp] theorem h92_msd : h92.msd = [] := rfl
@[simp] theorem h92_alt : h92.alt = [] := rfl
@[simp] theorem h92_fz : h92.fz = 0 := rfl
@[simp] theorem h92_gc : h92.gc = false := rfl
@[simp] theorem h92_wk : h92.wk = false := rfl
@[simp] theorem h92_rt : h92.rt = false := rfl
@[simp] theorem h92_inv : h92.inv = [] := rfl
def h122 : Hint where
  vars := []
  conds := []
  steal := []
  live := []
  roots := []
  rets := true
  glob := []
  sw := []
  msd := []
  alt := []
  fz := 0
  gc := false
  wk := false
  rt := false
  inv := []
@[simp] theorem h122_vars : h122.vars = [] := rfl
@[simp] theorem h122_conds : h122.conds = [] := rfl
@[simp] theorem h122_steal : h122.steal = [] := rfl
@[simp] theorem h122_live : h122.live = [] := rfl
@[simp] theorem h122_roots : h122.roots = [] := rfl
@[simp] theorem h122_rets : h122.rets = true := rfl
@[simp] theorem h122_glob : h122.glob = [] := rfl
@[simp] theorem h122_sw : h122.sw = [] := rfl
@[simp] theorem h122_msd : h122.msd = [] := rfl
@[simp] theorem h122_alt : h122.alt = [] := rfl
@[simp] theorem h122_fz : h122.fz = 0 := rfl
@[simp] theorem h122_gc : h122.gc = false := rfl
@[simp] theorem h122_wk : h122.wk = false := rfl
@[simp] theorem h122_rt : h122.rt = false := rfl
@[simp] theorem h122_inv : h122.inv = [] := rfl
def H : FuncId → Hint
  | 2 => h2
  | 3 => h3
  | 4 => h4
  | 5 => h5
  | 6 => h6
  | 7 => h7
  | 8 => h8
  | 9 => h9
  | 10 => h10
  | 11 => h11
  | 12 => h12
  | 13 => h13
  | 14 => h14
  | 15 => h15
  | 16 => h16
  | 17 => h17
  | 18 => h18
  | 19 => h19
  | 20 => h20
  | 21 => h21
  | 22 => h22
  | 23 => h23
  | 24 => h24
  | 25 => h25
  | 26 => h26
  | 27 => h27
  | 28 => h28
  | 29 => h29
  | 30 => h30
  | 31 => h31
  | 32 => h32
  | 33 => h33
  | 34 => h34
  | 35 => h35
  | 36 => h36
  | 37 => h37
  | 39 => h39
  | 40 => h40
  | 41 => h41
  | 42 => h42
  | 43 => h43
  | 44 => h44
  | 45 => h45
  | 46 => h46
  | 47 => h47
  | 48 => h48
  | 49 => h49
  | 50 => h50
  | 51 => h51
  | 52 => h52
  | 53 => h53
  | 54 => h54
  | 56 => h56
  | 57 => h57
  | 58 => h58
  | 59 => h59
  | 60 => h60
  | 61 => h61
  | 62 => h62
  | 63 => h63
  | 64 => h64
  | 65 => h65
  | 67 => h67
  | 68 => h68
  | 69 => h69
  | 71 => h71
  | 72 => h72
  | 73 => h73
  | 74 => h74
  | 75 => h75
  | 76 => h76
  | 78 => h78
  | 79 => h79
  | 80 => h80
  | 81 => h81
  | 82 => h82
  | 83 => h83
  | 85 => h85
  | 86 => h86
  | 87 => h87
  | 88 => h88
  | 89 => h89
  | 90 => h90
  | 91 => h91
  | 92 => h92
  | 122 => h122
  | _ => {}
@[simp] theorem H2 : H 2 = h2 := rfl
@[simp] theorem H3 : H 3 = h3 := rfl
@[simp] theorem H4 : H 4 = h4 := rfl
@[simp] theorem H5 : H 5 = h5 := rfl
@[simp] theorem H6 : H 6 = h6 := rfl
@[simp] theorem H7 : H 7 = h7 := rfl
@[simp] theorem H8 : H 8 = h8 := rfl
@[simp] theorem H9 : H 9 = h9 := rfl
@[simp] theorem H10 : H 10 = h10 := rfl
@[simp] theorem H11 : H 11 = h11 := rfl
@[simp] theorem H12 : H 12 = h12 := rfl
@[simp] theorem H13 : H 13 = h13 := rfl
@[simp] theorem H14 : H 14 = h14 := rfl
@[simp] theorem H15 : H 15 = h15 := rfl
@[simp] theorem H16 : H 16 = h16 := rfl
@[simp] theorem H17 : H 17 = h17 := rfl
@[simp] theorem H18 : H 18 = h18 := rfl
@[simp] theorem H19 : H 19 = h19 := rfl
@[simp] theorem H20 : H 20 = h20 := rfl
@[simp] theorem H21 : H 21 = h21 := rfl
@[simp] theorem H22 : H 22 = h22 := rfl
@[simp] theorem H23 : H 23 = h23 := rfl
@[simp] theorem H24 : H 24 = h24 := rfl
@[simp] theorem H25 : H 25 = h25 := rfl
@[simp] theorem H26 : H 26 = h26 := rfl
@[simp] theorem H27 : H 27 = h27 := rfl
@[simp] theorem H28 : H 28 = h28 := rfl
@[simp] theorem H29 : H 29 = h29 := rfl
@[simp] theorem H30 : H 30 = h30 := rfl
@[simp] theorem H31 : H 31 = h31 := rfl
@[simp] theorem H32 : H 32 = h32 := rfl
@[simp] theorem H33 : H 33 = h33 := rfl
@[simp] theorem H34 : H 34 = h34 := rfl
@[simp] theorem H35 : H 35 = h35 := rfl
@[simp] theorem H36 : H 36 = h36 := rfl
@[simp] theorem H37 : H 37 = h37 := rfl
@[simp] theorem H39 : H 39 = h39 := rfl
@[simp] theorem H40 : H 40 = h40 := rfl
@[simp] theorem H41 : H 41 = h41 := rfl
@[simp] theorem H42 : H 42 = h42 := rfl
@[simp] theorem H43 : H 43 = h43 := rfl
@[simp] theorem H44 : H 44 = h44 := rfl
@[simp] theorem H45 : H 45 = h45 := rfl
@[simp] theorem H46 : H 46 = h46 := rfl
@[simp] theorem H47 : H 47 = h47 := rfl
@[simp] theorem H48 : H 48 = h48 := rfl
@[simp] theorem H49 : H 49 = h49 := rfl
@[simp] theorem H50 : H 50 = h50 := rfl
@[simp] theorem H51 : H 51 = h51 := rfl
@[simp] theorem H52 : H 52 = h52 := rfl
@[simp] theorem H53 : H 53 = h53 := rfl
@[simp] theorem H54 : H 54 = h54 := rfl
@[simp] theorem H56 : H 56 = h56 := rfl
@[simp] theorem H57 : H 57 = h57 := rfl
@[simp] theorem H58 : H 58 = h58 := rfl
@[simp] theorem H59 : H 59 = h59 := rfl
@[simp] theorem H60 : H 60 = h60 := rfl
@[simp] theorem H61 : H 61 = h61 := rfl
@[simp] theorem H62 : H 62 = h62 := rfl
@[simp] theorem H63 : H 63 = h63 := rfl
@[simp] theorem H64 : H 64 = h64 := rfl
@[simp] theorem H65 : H 65 = h65 := rfl
@[simp] theorem H67 : H 67 = h67 := rfl
@[simp] theorem H68 : H 68 = h68 := rfl
@[simp] theorem H69 : H 69 = h69 := rfl
@[simp] theorem H71 : H 71 = h71 := rfl
@[simp] theorem H72 : H 72 = h72 := rfl
@[simp] theorem H73 : H 73 = h73 := rfl
@[simp] theorem H74 : H 74 = h74 := rfl
@[simp] theorem H75 : H 75 = h75 := rfl
@[simp] theorem H76 : H 76 = h76 := rfl
@[simp] theorem H78 : H 78 = h78 := rfl
@[simp] theorem H79 : H 79 = h79 := rfl
@[simp] theorem H80 : H 80 = h80 := rfl
@[simp] theorem H81 : H 81 = h81 := rfl
@[simp] theorem H82 : H 82 = h82 := rfl
@[simp] theorem H83 : H 83 = h83 := rfl
@[simp] theorem H85 : H 85 = h85 := rfl
@[simp] theorem H86 : H 86 = h86 := rfl
@[simp] theorem H87 : H 87 = h87 := rfl
@[simp] theorem H88 : H 88 = h88 := rfl
@[simp] theorem H89 : H 89 = h89 := rfl
@[simp] theorem H90 : H 90 = h90 := rfl
@[simp] theorem H91 : H 91 = h91 := rfl
@[simp] theorem H92 : H 92 = h92 := rfl
@[simp] theorem H122 : H 122 = h122 := rfl
end Go.Proofs.Tryd.Ai
end
section
/- The table of this seat: the functions that are not evaluated by their own code. -/
namespace Go.Proofs.Tryd.Ai
open Go Go.AI Go.RowKit Go.Proofs
set_option linter.unusedVariables false

noncomputable def T : Table
  | 38 => some copyCheckT
  | 25 => some stringT
  | 36 => some growT
  | 65 => some indexT
  | 49 => some countT
  | 18 => some itoaT
  | 47 => some indexST
  | 34 => some atoiT
  | 22 => some replaceAllT
  | 30 => some repeatT
  | 19 => some cutT
  | 20 => some splitT
  | 44 => some hasPrefixT
  | 23 => some joinT
  | _ => none

theorem enters_copyCheck : AI.Enters Tryd.prog 38 := ⟨_, Tryd.func38, by kernel_rfl, by kernel_rfl⟩
theorem enters_String : AI.Enters Tryd.prog 25 := ⟨_, Tryd.func25, by kernel_rfl, by kernel_rfl⟩
theorem enters_Grow : AI.Enters Tryd.prog 36 := ⟨_, Tryd.func36, by kernel_rfl, by kernel_rfl⟩
theorem enters_index : AI.Enters Tryd.prog 65 := ⟨_, Tryd.func65, by kernel_rfl, by kernel_rfl⟩
theorem enters_count : AI.Enters Tryd.prog 49 := ⟨_, Tryd.func49, by kernel_rfl, by kernel_rfl⟩
theorem enters_Itoa : AI.Enters Tryd.prog 18 := ⟨_, Tryd.func18, by kernel_rfl, by kernel_rfl⟩

theorem T_ok {W0 : World} (hl : LaidAll W0) : TableOk Tryd.prog W0.heap.size W0 T := by
  intro f p hf xs s r s' e
  unfold T at hf
  split at hf
  · injection hf with hf; subst hf; exact ⟨enters_copyCheck, copyCheck_ok e⟩
  · injection hf with hf; subst hf; exact ⟨enters_String, string_ok e⟩
  · injection hf with hf; subst hf; exact ⟨enters_Grow, grow_ok e⟩
  · injection hf with hf; subst hf; exact ⟨enters_index, index_ok e⟩
  · injection hf with hf; subst hf; exact ⟨enters_count, count_ok e⟩
  · injection hf with hf; subst hf; exact ⟨enters_Itoa, itoa_ok hl.tab e⟩
  · injection hf with hf; subst hf; exact ⟨⟨_, Tryd.func47, by kernel_rfl, by kernel_rfl⟩, indexS_ok hl e⟩
  · injection hf with hf; subst hf; exact ⟨⟨_, Tryd.func34, by kernel_rfl, by kernel_rfl⟩, atoi_ok hl e⟩
  · injection hf with hf; subst hf; exact ⟨⟨_, Tryd.func22, by kernel_rfl, by kernel_rfl⟩, replaceAll_ok hl e⟩
  · injection hf with hf; subst hf; exact ⟨⟨_, Tryd.func30, by kernel_rfl, by kernel_rfl⟩, repeat_ok e⟩
  · injection hf with hf; subst hf; exact ⟨⟨_, Tryd.func19, by kernel_rfl, by kernel_rfl⟩, cut_ok hl e⟩
  · injection hf with hf; subst hf; exact ⟨⟨_, Tryd.func20, by kernel_rfl, by kernel_rfl⟩, split_ok hl e⟩
  · injection hf with hf; subst hf; exact ⟨⟨_, Tryd.func44, by kernel_rfl, by kernel_rfl⟩, hasPrefix_ok e⟩
  · injection hf with hf; subst hf; exact ⟨⟨_, Tryd.func23, by kernel_rfl, by kernel_rfl⟩, join_ok e⟩
  · cases hf

noncomputable abbrev ev : Oracle := EV Tryd.prog H T

theorem ev_copyCheck (xs : List AV) (s : List (List AV)) : ev 38 xs s = copyCheckT xs s := EV_table rfl xs s
theorem ev_String (xs : List AV) (s : List (List AV)) : ev 25 xs s = stringT xs s := EV_table rfl xs s
theorem ev_Grow (xs : List AV) (s : List (List AV)) : ev 36 xs s = growT xs s := EV_table rfl xs s
theorem ev_index (xs : List AV) (s : List (List AV)) : ev 65 xs s = indexT xs s := EV_table rfl xs s
theorem ev_count (xs : List AV) (s : List (List AV)) : ev 49 xs s = countT xs s := EV_table rfl xs s
theorem ev_Itoa (xs : List AV) (s : List (List AV)) : ev 18 xs s = itoaT xs s := EV_table rfl xs s
theorem ev_indexS (xs : List AV) (s : List (List AV)) : ev 47 xs s = indexST xs s := EV_table rfl xs s
theorem ev_Atoi (xs : List AV) (s : List (List AV)) : ev 34 xs s = atoiT xs s := EV_table rfl xs s
theorem ev_ReplaceAll (xs : List AV) (s : List (List AV)) : ev 22 xs s = replaceAllT xs s := EV_table rfl xs s
theorem ev_Repeat (xs : List AV) (s : List (List AV)) : ev 30 xs s = repeatT xs s := EV_table rfl xs s
theorem ev_Cut (xs : List AV) (s : List (List AV)) : ev 19 xs s = cutT xs s := EV_table rfl xs s
theorem ev_Split (xs : List AV) (s : List (List AV)) : ev 20 xs s = splitT xs s := EV_table rfl xs s
theorem ev_HasPrefix (xs : List AV) (s : List (List AV)) : ev 44 xs s = hasPrefixT xs s := EV_table rfl xs s
theorem ev_Join (xs : List AV) (s : List (List AV)) : ev 23 xs s = joinT xs s := EV_table rfl xs s
end Go.Proofs.Tryd.Ai
end
section
/- tlog's numbers: places in the stored order. -/
namespace Go.Proofs.Tryd.Ai
open Go Go.AI Go.Proofs
set_option maxHeartbeats 400000

def stF : Nat → Nat → Nat
  | 0, _ => 0
  | f + 1, n => if n = 0 then 0 else n + stF f (n / 2)
def storedN (n : Nat) : Nat := stF 64 n
theorem stF_le (f n : Nat) : stF f n ≤ 2 * n := by
  induction f generalizing n with
  | zero => simp [stF]
  | succ f ih => rw [stF]; split; omega; have := ih (n / 2); omega
theorem stF_succ (f n : Nat) : stF (f + 1) n = if n = 0 then 0 else n + stF f (n / 2) := rfl
theorem stF_fuel (f n : Nat) (h : n < 2 ^ f) : stF (f + 1) n = stF f n := by
  induction f generalizing n with
  | zero => simp at h; subst h; rfl
  | succ f ih =>
    rw [stF_succ (f + 1) n, stF_succ f n]
    split
    · rfl
    · rw [ih (n / 2) (by rw [Nat.pow_succ] at h; omega)]
theorem storedN_le (n : Nat) : storedN n ≤ 2 * n := stF_le 64 n
theorem storedN_step (n : Nat) (h0 : n ≠ 0) (h : n < 2 ^ 60) : storedN n = n + storedN (n / 2) := by
  show stF 64 n = n + stF 64 (n / 2)
  rw [stF, if_neg h0, stF_fuel 63 (n / 2) (Nat.lt_of_le_of_lt (Nat.div_le_self n 2) (Nat.lt_trans h (by decide)))]
theorem storedN_zero : storedN 0 = 0 := rfl

theorem stored_eq (n : Nat) (hn : n ≤ 2 ^ 40) (σ) : ev 28 [.int .i64 n] σ = some (.int .i64 (storedN n), σ) := by
  refine EV_post rfl Tryd.func28 rfl (by simp [Tryd.ntmps28]) (by kernel_rfl) (by kernel_rfl) ?_
  simp
  refine Post_loop (I := fun x : Nat × Nat => ⟨[(0, .int .i64 x.1), (3, .int .i64 x.2)], [], σ⟩) (Pr := fun x => x.1 ≤ 2^40 ∧ x.2 ≤ 2^50 ∧ x.2 + storedN x.1 = storedN n) (μ := fun x => x.1) (a := (n, 0)) (by simp) (by simp; omega) ?_
  rintro ⟨a, s⟩ ⟨ha, hs, hr⟩
  simp only at ha hs hr
  have := storedN_le n
  by_cases hc : 0 < a
  · rw [storedN_step a (by omega) (by omega)] at hr
    have c1 : 0 < (a : Int) := by omega
    have c2 : ((a : Int).tdiv 2) = ((a / 2 : Nat) : Int) := by rw [Int.tdiv_eq_ediv_of_nonneg (by omega)]; omega
    simp (maxSteps := 4000000) (disch := omega) [dT, dF, wrap64, c2, hc]
    refine ⟨a / 2, s + a, ⟨by omega, by omega, by omega⟩, by omega, by simp⟩
  · have c1 : a = 0 := by omega
    subst c1
    rw [storedN_zero] at hr
    simp (maxSteps := 4000000) (disch := omega) [dT, dF, wrap64, Tryd.results28, hr]
    omega

theorem within_eq (n level k : Int) (hl : -2^40 ≤ n ∧ n ≤ 2^40) (σ) : ev 27 [.int .i64 n, .int .i64 level, .int .i64 k] σ =
    some (.bool (decide (0 ≤ level ∧ level ≤ 20 ∧ 0 ≤ k ∧ k < n.fdiv (2 ^ level.toNat))), σ) := by
  refine EV_post rfl Tryd.func27 rfl (by simp [Tryd.ntmps27]) (by kernel_rfl) (by kernel_rfl) ?_
  simp
  by_cases h1 : 0 ≤ level
  · by_cases h2 : level ≤ 20
    · by_cases h3 : 0 ≤ k
      · have h4 : min level.toNat 64 = level.toNat := by omega
        have h5 : ¬ level < 0 := by omega
        simp (maxSteps := 4000000) (disch := omega) [dT, dF, wrap64, h1, h2, h3, h4, h5, IntKind.bits, Tryd.results27]
      · simp (maxSteps := 4000000) (disch := omega) [dT, dF, wrap64, h1, h2, h3, Tryd.results27]
    · simp (maxSteps := 4000000) (disch := omega) [dT, dF, wrap64, h1, h2, Tryd.results27]
  · simp (maxSteps := 4000000) (disch := omega) [dT, dF, wrap64, h1, Tryd.results27]
theorem Num_eq (e : Int) (σ) : ev 6 [.int .i64 e] σ = some (.int .i64 e, σ) := by
  refine EV_post rfl Tryd.func6 rfl (by simp [Tryd.ntmps6]) (by kernel_rfl) (by kernel_rfl) ?_
  simp [Tryd.results6]
end Go.Proofs.Tryd.Ai
end
section
/- tlog.Index, Split, Count. -/
namespace Go.Proofs.Tryd.Ai
open Go Go.AI Go.Proofs
set_option maxHeartbeats 400000

def inP (n level k : Int) : Bool := decide (0 ≤ level ∧ level ≤ 20 ∧ 0 ≤ k ∧ k < n.fdiv (2 ^ level.toNat))

theorem fdiv_pow (m l : Nat) : (m : Int).fdiv (2 ^ l) = ((m / 2 ^ l : Nat) : Int) := by
  have : ((2 : Int) ^ l) = ((2 ^ l : Nat) : Int) := by simp
  rw [this, Int.fdiv_eq_ediv_of_nonneg _ (Int.natCast_nonneg _)]; rfl
theorem mul_pow (a l : Nat) : (a : Int) * 2 ^ l = ((a * 2 ^ l : Nat) : Int) := by simp

theorem inP_nat {n level k : Int} (hn : 0 ≤ n) (h : inP n level k = true) : ∃ l i : Nat, level = l ∧ k = i ∧ l ≤ 20 ∧ (i + 1) * 2 ^ l ≤ n.toNat := by
  unfold inP at h
  obtain ⟨h1, h2, h3, h4⟩ := of_decide_eq_true h
  obtain ⟨l, rfl⟩ := Int.eq_ofNat_of_zero_le h1
  obtain ⟨i, rfl⟩ := Int.eq_ofNat_of_zero_le h3
  obtain ⟨m, rfl⟩ := Int.eq_ofNat_of_zero_le hn
  refine ⟨l, i, rfl, rfl, by omega, ?_⟩
  simp only [Int.toNat_natCast] at h4 ⊢
  rw [fdiv_pow] at h4
  have h5 : i + 1 ≤ m / 2 ^ l := by omega
  exact (Nat.le_div_iff_mul_le (Nat.two_pow_pos l)).1 h5
theorem inP_of {m l i : Nat} (hl : l ≤ 20) (h : (i + 1) * 2 ^ l ≤ m) : inP m l i = true := by
  unfold inP
  refine decide_eq_true ⟨by omega, by omega, by omega, ?_⟩
  simp only [Int.toNat_natCast]
  rw [fdiv_pow]
  have := (Nat.le_div_iff_mul_le (Nat.two_pow_pos l)).2 h
  omega

def indexN (l i : Nat) : Nat := storedN ((i + 1) * 2 ^ l - 1) + l

theorem Index_no (level k : Int) (h : inP 1048576 level k = false) (σ) : ev 12 [.int .i64 level, .int .i64 k] σ = some (.tup [.int .i64 0, .int .i64 6], σ) := by
  refine EV_post rfl Tryd.func12 rfl (by simp [Tryd.ntmps12]) (by kernel_rfl) (by kernel_rfl) ?_
  have hw := within_eq 1048576 level k (by omega) σ
  rw [show decide (0 ≤ level ∧ level ≤ 20 ∧ 0 ≤ k ∧ k < Int.fdiv 1048576 (2 ^ level.toNat)) = inP 1048576 level k from rfl, h] at hw
  simp [hw, Tryd.results12]

theorem Index_yes (l i : Nat) (hl : l ≤ 20) (h : (i + 1) * 2 ^ l ≤ 1048576) (σ) : ev 12 [.int .i64 l, .int .i64 i] σ = some (.tup [.int .i64 (indexN l i), .int .i64 0], σ) := by
  refine EV_post rfl Tryd.func12 rfl (by simp [Tryd.ntmps12]) (by kernel_rfl) (by kernel_rfl) ?_
  have hw := within_eq 1048576 l i (by omega) σ
  rw [show decide (0 ≤ (l : Int) ∧ (l : Int) ≤ 20 ∧ 0 ≤ (i : Int) ∧ (i : Int) < Int.fdiv 1048576 (2 ^ (l : Int).toNat)) = inP 1048576 l i from rfl, show inP 1048576 l i = true from inP_of (m := 1048576) hl h] at hw
  have h1 : i ≤ 1048576 := by
    have : i + 1 ≤ (i + 1) * 2 ^ l := Nat.le_mul_of_pos_right _ (Nat.two_pow_pos l)
    omega
  have hp : 0 < (i + 1) * 2 ^ l := Nat.mul_pos (by omega) (Nat.two_pow_pos l)
  obtain ⟨q, hq⟩ : ∃ q, (i + 1) * 2 ^ l = q + 1 := ⟨(i + 1) * 2 ^ l - 1, by omega⟩
  have c1 : IntKind.i64.wrap ((i : Int) + 1) = (i : Int) + 1 := wrap64 (by omega)
  have c2 : min l IntKind.i64.bits = l := by simp [IntKind.bits]; omega
  have c3 : IntKind.i64.wrap (((i : Int) + 1) * 2 ^ l) = (q : Int) + 1 := by
    have := mul_pow (i + 1) l
    rw [hq] at this
    rw [show ((i : Int) + 1) = ((i + 1 : Nat) : Int) from by omega, this, wrap64 (by omega)]; omega
  have hs := stored_eq q (by omega) σ
  have hb := storedN_le q
  have hi : indexN l i = storedN q + l := by unfold indexN; rw [hq]; rfl
  have c6 : ¬ (l : Int) < 0 := by omega
  simp (maxSteps := 4000000) (disch := omega) [dT, dF, wrap64, hw, c2, c6, c3, hs, wrap64, Tryd.results12, hi]
end Go.Proofs.Tryd.Ai
end
section
/- tlog.Count, Split. -/
namespace Go.Proofs.Tryd.Ai
open Go Go.AI Go.Proofs
set_option maxHeartbeats 400000

/-- how many places a record adds -/
theorem stored_even (m : Nat) (h : m < 2 ^ 50) : storedN (2 * m + 1) = storedN (2 * m) + 1 := by
  rw [storedN_step (2 * m + 1) (by omega) (by omega)]
  by_cases h0 : m = 0
  · subst h0; rfl
  · rw [storedN_step (2 * m) (by omega) (by omega), show (2 * m + 1) / 2 = m by omega, show 2 * m / 2 = m by omega]; omega
theorem stored_odd (m : Nat) (h : m < 2 ^ 50) : storedN (2 * m + 2) + storedN m = storedN (2 * m + 1) + storedN (m + 1) + 1 := by
  rw [storedN_step (2 * m + 2) (by omega) (by omega), storedN_step (2 * m + 1) (by omega) (by omega), show (2 * m + 2) / 2 = m + 1 by omega, show (2 * m + 1) / 2 = m by omega]; omega
theorem stored_lt (n : Nat) (h : n < 2 ^ 50) : storedN n < storedN (n + 1) := by
  induction n using Nat.strongRecOn with
  | _ n ih =>
    rcases Nat.mod_two_eq_zero_or_one n with h2 | h2
    · obtain ⟨m, rfl⟩ : ∃ m, n = 2 * m := ⟨n / 2, by omega⟩
      rw [stored_even m (by omega)]; omega
    · obtain ⟨m, rfl⟩ : ∃ m, n = 2 * m + 1 := ⟨n / 2, by omega⟩
      have := stored_odd m (by omega)
      have := ih m (by omega) (by omega)
      show storedN (2 * m + 1) < storedN (2 * m + 2)
      omega
theorem stored_mono {n m : Nat} (h : n ≤ m) (hm : m < 2 ^ 50) : storedN n ≤ storedN m := by
  induction m with
  | zero => have : n = 0 := by omega
            subst this; exact Nat.le_refl _
  | succ m ih =>
    by_cases e : n = m + 1
    · subst e; exact Nat.le_refl _
    · have := ih (by omega) (by omega)
      have := stored_lt m (by omega)
      omega
/-- with the record that ends a whole tree of a level, the levels up to it are stored -/
theorem stored_gap (l k : Nat) (h : (k + 1) * 2 ^ l < 2 ^ 50) : storedN ((k + 1) * 2 ^ l - 1) + l < storedN ((k + 1) * 2 ^ l) := by
  induction l generalizing k with
  | zero => simp; simp at h; exact stored_lt k (by omega)
  | succ l ih =>
    have hp : 0 < (k + 1) * 2 ^ l := Nat.mul_pos (by omega) (Nat.two_pow_pos l)
    have e : (k + 1) * 2 ^ (l + 1) = 2 * ((k + 1) * 2 ^ l) := by rw [Nat.pow_succ]; ac_rfl
    rw [e] at h ⊢
    have := ih k (by omega)
    obtain ⟨m, hm⟩ : ∃ m, (k + 1) * 2 ^ l = m + 1 := ⟨(k + 1) * 2 ^ l - 1, by omega⟩
    rw [hm] at this ⊢
    have h2 := stored_odd m (by omega)
    rw [show m + 1 - 1 = m from rfl] at this
    rw [show 2 * (m + 1) - 1 = 2 * m + 1 by omega, show 2 * (m + 1) = 2 * m + 2 by omega]
    omega
theorem stored_gap_eq (l k : Nat) (h : (k + 1) * 2 ^ l < 2 ^ 50) (hk : k % 2 = 0) : storedN ((k + 1) * 2 ^ l - 1) + l + 1 = storedN ((k + 1) * 2 ^ l) := by
  induction l with
  | zero =>
    obtain ⟨m, rfl⟩ : ∃ m, k = 2 * m := ⟨k / 2, by omega⟩
    simp at h ⊢
    exact (stored_even m (by omega)).symm
  | succ l ih =>
    have hp : 0 < (k + 1) * 2 ^ l := Nat.mul_pos (by omega) (Nat.two_pow_pos l)
    have e : (k + 1) * 2 ^ (l + 1) = 2 * ((k + 1) * 2 ^ l) := by rw [Nat.pow_succ]; ac_rfl
    rw [e] at h ⊢
    have := ih (by omega)
    obtain ⟨m, hm⟩ : ∃ m, (k + 1) * 2 ^ l = m + 1 := ⟨(k + 1) * 2 ^ l - 1, by omega⟩
    rw [hm] at this ⊢
    have h2 := stored_odd m (by omega)
    rw [show m + 1 - 1 = m from rfl] at this
    rw [show 2 * (m + 1) - 1 = 2 * m + 1 by omega, show 2 * (m + 1) = 2 * m + 2 by omega]
    omega

theorem stored_most : storedN 1048576 = 2097151 := by decide +kernel

theorem Split_no (x : Int) (h : x < 0 ∨ 2097151 ≤ x) (σ) : ev 13 [.int .i64 x] σ = some (.tup [.int .i64 0, .int .i64 0, .int .i64 6], σ) := by
  refine EV_post rfl Tryd.func13 rfl (by simp [Tryd.ntmps13]) (by kernel_rfl) (by kernel_rfl) ?_
  have hs : ev 28 [.int .i64 1048576] σ = some (.int .i64 2097151, σ) := by have := stored_eq 1048576 (by omega) σ; rw [stored_most] at this; exact this
  by_cases h1 : x < 0
  · simp (maxSteps := 4000000) (disch := omega) [dT, dF, wrap64, hs, h1, Tryd.results13]
  · have h2 : 2097151 ≤ x := by omega
    simp (maxSteps := 4000000) (disch := omega) [dT, dF, wrap64, hs, h1, h2, Tryd.results13]

theorem Split_yes (x lo l g : Nat) (hl : x = storedN lo + l) (h2 : x < storedN (lo + 1)) (h3 : lo < 1048576) (hg : (lo + 1) / 2 ^ l = g) (σ) :
    ev 13 [.int .i64 x] σ = some (.tup [.int .i64 l, .int .i64 ((g : Int) - 1), .int .i64 0], σ) := by
  refine EV_post rfl Tryd.func13 rfl (by simp [Tryd.ntmps13]) (by kernel_rfl) (by kernel_rfl) ?_
  have hs : ev 28 [.int .i64 1048576] σ = some (.int .i64 2097151, σ) := by have := stored_eq 1048576 (by omega) σ; rw [stored_most] at this; exact this
  have hx : x < 2097151 := by have := stored_mono (n := lo + 1) (m := 1048576) (by omega) (by omega); rw [stored_most] at this; omega
  have q1 : ¬ (x : Int) < 0 := by omega
  have q2 : ¬ 2097151 ≤ (x : Int) := by omega
  simp (maxSteps := 4000000) (disch := omega) [dT, dF, wrap64, hs]
  refine Post_loop (I := fun p : Nat × Nat => ⟨[(0, .int .i64 x), (5, .int .i64 p.1), (6, .int .i64 p.2)], [], σ⟩) (Pr := fun p => p.1 ≤ lo ∧ lo < p.2 ∧ p.2 ≤ 1048576) (μ := fun p => p.2 - p.1) (a := (0, 1048576)) (by simp) (by simp; omega) ?_
  rintro ⟨a, b⟩ ⟨ha, hb, hc⟩
  simp only at ha hb hc
  by_cases hd : 1 < b - a
  · obtain ⟨m, hm⟩ : ∃ m, m = a + (b - a) / 2 := ⟨_, rfl⟩
    have c1 : 1 < (b : Int) - a := by omega
    have c2 : ((b : Int) - a).tdiv 2 = ((m - a : Nat) : Int) := by rw [Int.tdiv_eq_ediv_of_nonneg (by omega)]; omega
    have c3 : IntKind.i64.wrap ((a : Int) + ((m - a : Nat) : Int)) = (m : Int) := by rw [wrap64 (by omega)]; omega
    have hsm := stored_eq m (by omega) σ
    by_cases he : storedN m ≤ x
    · have c4 : (storedN m : Int) ≤ x := by omega
      have : m ≤ lo := by
        rcases Nat.lt_or_ge lo m with q | q
        · have := stored_mono (n := lo + 1) (m := m) (by omega) (by omega); omega
        · exact q
      simp (maxSteps := 4000000) (disch := omega) [dT, dF, wrap64, c1, c2, c3, hsm, he]
      exact ⟨m, b, ⟨by omega, by omega, by omega⟩, by omega, by simp⟩
    · have c4 : ¬ (storedN m : Int) ≤ x := by omega
      have : lo < m := by
        rcases Nat.lt_or_ge lo m with q | q
        · exact q
        · have := stored_mono (n := m) (m := lo) (by omega) (by omega); omega
      simp (maxSteps := 4000000) (disch := omega) [dT, dF, wrap64, c1, c2, c3, hsm, he]
      exact ⟨a, m, ⟨by omega, by omega, by omega⟩, by omega, by simp⟩
  · have : a = lo := by omega
    subst this
    have c1 : ¬ 1 < (b : Int) - a := by omega
    have hsa := stored_eq a (by omega) σ
    have hl2 : l < 2 ^ 40 := by omega
    have c3 : IntKind.i64.wrap ((x : Int) - (storedN a : Int)) = (l : Int) := by rw [wrap64 (by omega)]; omega
    have c4 : ¬ (l : Int) < 0 := by omega
    have c5 : ((a : Int) + 1).fdiv (2 ^ min l 64) = (g : Int) := by
      rw [show ((a : Int) + 1) = ((a + 1 : Nat) : Int) by omega, fdiv_pow, ← hg]
      by_cases q : l ≤ 64
      · rw [show min l 64 = l by omega]
      · rw [show min l 64 = 64 by omega, Nat.div_eq_of_lt (Nat.lt_of_lt_of_le (by omega : a + 1 < 2 ^ 64) (Nat.le_refl _)), Nat.div_eq_of_lt (Nat.lt_of_lt_of_le (by omega : a + 1 < 2 ^ 64) (Nat.pow_le_pow_right (by omega) (by omega)))]
    have c6 : g ≤ a + 1 := by rw [← hg]; exact Nat.div_le_self _ _
    clear hl2 hc hd hx q1 q2 hb
    have w1 : IntKind.i64.wrap ((b : Int) - a) = (b : Int) - a := wrap64 (by omega)
    have w2 : IntKind.i64.wrap ((a : Int) + 1) = (a : Int) + 1 := wrap64 (by omega)
    have w3 : IntKind.i64.wrap ((g : Int) - 1) = (g : Int) - 1 := wrap64 (by omega)
    have w4 : IntKind.i64.wrap (g : Int) = g := wrap64 (by omega)
    simp (maxSteps := 4000000) [w1, w2, c1, hsa, c3, c4, c5, w3, w4, IntKind.bits, Tryd.results13]
end Go.Proofs.Tryd.Ai
end
section
/- strings.Builder, walked over its table entries. -/
namespace Go.Proofs.Tryd.Ai
open Go Go.AI Go.Proofs
set_option maxHeartbeats 1000000
set_option linter.unusedVariables false

/-- a Builder's box: fresh, or with a text -/
def bc (b : Nat) : Option (List UInt8) → List AV
  | none => [.nilp, .sl .nil []]
  | some l => [.gp b 0 (some (SB, 2)), .sl (.ex U8 1) (l.map .u8)]
/-- after its text was taken -/
def bs (b : Nat) : Option (List UInt8) → List AV
  | none => [.nilp, .sl .nil []]
  | some l => [.gp b 0 (some (SB, 2)), .sl .sh (l.map .u8)]
def txt (o : Option (List UInt8)) : List UInt8 := o.getD []
@[simp] theorem txt_some (l : List UInt8) : txt (some l) = l := rfl
@[simp] theorem txt_none : txt none = [] := rfl
@[simp] theorem bc_lowL (b : Nat) (o : Option (List UInt8)) (n : Nat) : lowL n (bc b o) ↔ o = none ∨ b < n := by cases o <;> simp [bc]
@[simp] theorem bs_lowL (b : Nat) (o : Option (List UInt8)) (n : Nat) : lowL n (bs b o) ↔ o = none ∨ b < n := by cases o <;> simp [bs]

theorem one_most : 1 ≤ most := by unfold most; omega

theorem WriteByte_b (b : Nat) (σ : List (List AV)) (o : Option (List UInt8)) (hl : (txt o).length + 1 ≤ most) (c : UInt8) (hb : σ[b]? = some (bc b o)) :
    ev 24 [.gp b 0 (some (SB, 2)), .u8 c] σ = some (.nili, σ.set b (bc b (some (txt o ++ [c])))) := by
  have hlt : b < σ.length := (List.getElem?_eq_some_iff.1 hb).1
  have h1 := one_most
  refine EV_post rfl Tryd.func24 rfl (by simp [Tryd.ntmps24]) (by kernel_rfl) (by kernel_rfl) ?_
  cases o with
  | none =>
    simp only [bc] at hb ⊢
    simp (maxSteps := 4000000) (disch := omega) [dT, dF, wrap64, -getElem?_pos, List.getElem?_cons_zero, List.getElem?_cons_succ, List.getElem?_set, ev_copyCheck, copyCheckT, hb, hlt, Tryd.results24, h1, SB, U8]
  | some l =>
    simp only [bc, txt_some] at hb hl ⊢
    simp (maxSteps := 4000000) (disch := omega) [dT, dF, wrap64, -getElem?_pos, List.getElem?_cons_zero, List.getElem?_cons_succ, List.getElem?_set, ev_copyCheck, copyCheckT, hb, hlt, Tryd.results24, hl, SB, U8]
theorem WriteByte_eq (σ τ : List (List AV)) (o : Option (List UInt8)) (hl : (txt o).length + 1 ≤ most) (c : UInt8) :
    ev 24 [.gp σ.length 0 (some (SB, 2)), .u8 c] (σ ++ bc σ.length o :: τ) = some (.nili, σ ++ bc σ.length (some (txt o ++ [c])) :: τ) := by
  have := WriteByte_b σ.length (σ ++ bc σ.length o :: τ) o hl c (by simp)
  rw [this]; simp
theorem WriteString_b (b : Nat) (σ : List (List AV)) (o : Option (List UInt8)) (m : List UInt8) (hl : (txt o).length + m.length ≤ most) (hb : σ[b]? = some (bc b o)) :
    ev 37 [.gp b 0 (some (SB, 2)), .str m] σ = some (.tup [.int .i64 m.length, .nili], σ.set b (bc b (some (txt o ++ m)))) := by
  have hlt : b < σ.length := (List.getElem?_eq_some_iff.1 hb).1
  have h1 : m.length ≤ most := by omega
  refine EV_post rfl Tryd.func37 rfl (by simp [Tryd.ntmps37]) (by kernel_rfl) (by kernel_rfl) ?_
  cases o with
  | none =>
    simp only [bc, txt_none] at hb hl ⊢
    simp (maxSteps := 4000000) (disch := omega) [dT, dF, wrap64, -getElem?_pos, List.getElem?_cons_zero, List.getElem?_cons_succ, List.getElem?_set, ev_copyCheck, copyCheckT, hb, hlt, Tryd.results37, h1, SB, U8]
  | some l =>
    simp only [bc, txt_some] at hb hl ⊢
    simp (maxSteps := 4000000) (disch := omega) [dT, dF, wrap64, -getElem?_pos, List.getElem?_cons_zero, List.getElem?_cons_succ, List.getElem?_set, ev_copyCheck, copyCheckT, hb, hlt, Tryd.results37, hl, SB, U8]
theorem WriteString_eq (σ τ : List (List AV)) (o : Option (List UInt8)) (m : List UInt8) (hl : (txt o).length + m.length ≤ most) :
    ev 37 [.gp σ.length 0 (some (SB, 2)), .str m] (σ ++ bc σ.length o :: τ) = some (.tup [.int .i64 m.length, .nili], σ ++ bc σ.length (some (txt o ++ m)) :: τ) := by
  have := WriteString_b σ.length (σ ++ bc σ.length o :: τ) o m hl (by simp)
  rw [this]; simp
theorem bytesOf_map (l : List UInt8) : bytesOf (l.map .u8) = some l := by
  induction l with
  | nil => rfl
  | cons x r ih => simp only [List.map_cons, AV.u8] at ih ⊢; unfold bytesOf; simp [ih]
theorem String_b (b : Nat) (σ : List (List AV)) (o : Option (List UInt8)) (hb : σ[b]? = some (bc b o)) :
    ev 25 [.gp b 0 (some (SB, 2))] σ = some (.str (txt o), σ.set b (bs b o)) := by
  show ev 25 _ _ = _
  rw [ev_String]
  cases o with
  | none =>
    simp only [bc, bs, txt_none] at hb ⊢
    have : σ.set b [AV.nilp, .sl .nil []] = σ := by
      apply List.ext_getElem?; intro i; rw [List.getElem?_set]
      split
      · rename_i e; subst e; rw [hb]; simp [(List.getElem?_eq_some_iff.1 hb).1]
      · rfl
    rw [this]
    simp [-getElem?_pos, stringT, hb]
  | some l =>
    simp only [bc, bs, txt_some] at hb ⊢
    simp [-getElem?_pos, -AV.u8, stringT, hb, bytesOf_map, bnd]
theorem String_eq (σ τ : List (List AV)) (o : Option (List UInt8)) :
    ev 25 [.gp σ.length 0 (some (SB, 2))] (σ ++ bc σ.length o :: τ) = some (.str (txt o), σ ++ bs σ.length o :: τ) := by
  have := String_b σ.length (σ ++ bc σ.length o :: τ) o (by simp)
  rw [this]; simp
end Go.Proofs.Tryd.Ai
end
section
/- strconv.Itoa of small numbers; strings.Repeat of two zeros. -/
namespace Go.Proofs.Tryd.Ai
open Go Go.AI Go.Proofs
set_option maxHeartbeats 2000000
set_option linter.unusedVariables false

theorem digs : ∀ n : Nat, n < 10 → (List.take (n + 1) ([48, 49, 50, 51, 52, 53, 54, 55, 56, 57, 97, 98, 99, 100, 101, 102, 103, 104, 105, 106, 107, 108, 109, 110, 111, 112, 113, 114, 115, 116, 117, 118, 119, 120, 121, 122] : List UInt8)).drop n = [UInt8.ofNat (48 + n)] := by decide
theorem small_eq (n : Nat) (h : n < 10) (σ) : ev 61 [.int .i64 n] σ = some (.str [UInt8.ofNat (48 + n)], σ) := by
  refine EV_post rfl Tryd.func61 rfl (by simp [Tryd.ntmps61]) (by kernel_rfl) (by kernel_rfl) ?_
  have h1 : (n : Int) < 10 := by omega
  have h2 := digs n h
  dsimp only at h2
  have h6 : (0 : Int) ≤ (n : Int) + 1 := by omega
  have h3 : n ≤ 36 := by omega
  have h4 : n + 1 ≤ 36 := by omega
  have h5 : n < 36 := by omega
  simp (maxSteps := 4000000) (disch := omega) [dT, dF, wrap64, h1, h2, h3, h4, h5, h6, -List.take_succ_cons, Tryd.results61]
theorem Itoa_dig (n : Nat) (h : n < 10) (σ) : ev 18 [.int .i64 n] σ = some (.str [UInt8.ofNat (48 + n)], σ) := by
  rw [ev_Itoa]
  have : Lib.itoa (n : Int) = [UInt8.ofNat (48 + n)] := by unfold Lib.itoa; rw [if_neg (by omega), Int.toNat_natCast, Lib.decDigits_one h]
  simp only [itoaT]
  rw [need_of (by omega), this]
theorem HasPrefix_eq (a b : List UInt8) (σ) : ev 44 [.str a, .str b] σ = some (.bool (b.isPrefixOf a), σ) := by
  rw [ev_HasPrefix]; rfl
theorem Mul_small (σ) : ev 43 [.int .u64 1, .int .u64 2] σ = some (.tup [.int .u64 0, .int .u64 2], σ) := by
  have h1 : ∀ σ, ev 59 [.int .u64 1, .int .u64 2] σ = some (.tup [.int .u64 0, .int .u64 2], σ) := by
    intro σ
    refine EV_post rfl Tryd.func59 rfl (by simp [Tryd.ntmps59]) (by kernel_rfl) (by kernel_rfl) ?_
    simp (maxSteps := 4000000) [List.getElem?_cons_zero, List.getElem?_cons_succ, Tryd.results59]
    decide +kernel
  refine EV_post rfl Tryd.func43 rfl (by simp [Tryd.ntmps43]) (by kernel_rfl) (by kernel_rfl) ?_
  simp (maxSteps := 4000000) [List.getElem?_cons_zero, List.getElem?_cons_succ, h1, Tryd.results43]
theorem zeros : ∀ n : Nat, n ≤ 2 → (List.take n ([48, 48, 48, 48, 48, 48, 48, 48, 48, 48, 48, 48, 48, 48, 48, 48, 48, 48, 48, 48, 48, 48, 48, 48, 48, 48, 48, 48, 48, 48, 48, 48, 48, 48, 48, 48, 48, 48, 48, 48, 48, 48, 48, 48, 48, 48, 48, 48, 48, 48, 48, 48, 48, 48, 48, 48, 48, 48, 48, 48, 48, 48, 48, 48] : List UInt8)) = List.replicate n 48 := by decide
theorem Repeat_zeros (σ) : ev 30 [.str [48], .int .i64 2] σ = some (.str [48, 48], σ) := by
  rw [ev_Repeat]
  simp only [repeatT]
  rw [need_of ⟨by omega, by omega, by decide⟩]
  rfl
end Go.Proofs.Tryd.Ai
end
section
/- Comparisons of numbers with literals. -/
namespace Go.AI
@[simp] theorem cast_le_lit {n k : Nat} : ((n : Int) ≤ (no_index (OfNat.ofNat k) : Int)) ↔ n ≤ k := by
  show (n : Int) ≤ (k : Int) ↔ n ≤ k; omega
@[simp] theorem lit_le_cast {n k : Nat} : ((no_index (OfNat.ofNat k) : Int) ≤ (n : Int)) ↔ k ≤ n := by
  show (k : Int) ≤ (n : Int) ↔ k ≤ n; omega
@[simp] theorem cast_lt_lit {n k : Nat} : ((n : Int) < (no_index (OfNat.ofNat k) : Int)) ↔ n < k := by
  show (n : Int) < (k : Int) ↔ n < k; omega
@[simp] theorem lit_lt_cast {n k : Nat} : ((no_index (OfNat.ofNat k) : Int) < (n : Int)) ↔ k < n := by
  show (k : Int) < (n : Int) ↔ k < n; omega
@[simp] theorem cast_eq_lit {n k : Nat} : ((n : Int) = (no_index (OfNat.ofNat k) : Int)) ↔ n = k := by
  show (n : Int) = (k : Int) ↔ n = k; omega
@[simp] theorem lit_eq_cast {n k : Nat} : ((no_index (OfNat.ofNat k) : Int) = (n : Int)) ↔ k = n := by
  show (k : Int) = (n : Int) ↔ k = n; omega
@[simp] theorem nonneg_add_lit {n k : Nat} : (0 ≤ (n : Int) + (no_index (OfNat.ofNat k) : Int)) ↔ True := by
  show 0 ≤ (n : Int) + (k : Int) ↔ True; constructor; intro _; trivial; intro _; omega
@[simp] theorem nonneg_add_cast {n k : Nat} : (0 ≤ (n : Int) + (k : Int)) ↔ True := by constructor; intro _; trivial; intro _; omega
@[simp] theorem neg_add_lit {n k : Nat} : ((n : Int) + (no_index (OfNat.ofNat k) : Int) < 0) ↔ False := by
  show (n : Int) + (k : Int) < 0 ↔ False; constructor; intro _; omega; intro h; cases h
@[simp] theorem neg_add_cast {n k : Nat} : ((n : Int) + (k : Int) < 0) ↔ False := by constructor; intro _; omega; intro h; cases h
@[simp] theorem toNat_add_lit {n k : Nat} : ((n : Int) + (no_index (OfNat.ofNat k) : Int)).toNat = n + k := by
  show ((n : Int) + (k : Int)).toNat = n + k; omega
@[simp] theorem toNat_add_cast {n k : Nat} : ((n : Int) + (k : Int)).toNat = n + k := by omega
@[simp] theorem cast_inj' {n k : Nat} : ((n : Int) = (k : Int)) ↔ n = k := by omega
@[simp] theorem cast_lt' {n k : Nat} : ((n : Int) < (k : Int)) ↔ n < k := by omega
@[simp] theorem cast_le' {n k : Nat} : ((n : Int) ≤ (k : Int)) ↔ n ≤ k := by omega
@[simp] theorem u8_inj {n k : UInt8} : n.toNat = k.toNat ↔ n = k := UInt8.toNat_inj
@[simp] theorem u8_lit {a : UInt8} {k : Nat} (h : k < 256) : a.toNat = (no_index (OfNat.ofNat k)) ↔ a = UInt8.ofNat k := by
  show a.toNat = k ↔ _
  constructor
  · intro e; apply UInt8.toNat_inj.1; rw [e]; simp; omega
  · intro e; rw [e]; simp; omega
@[simp] theorem u8_beq {a b : UInt8} : (a == b) = decide (a = b) := by
  by_cases h : a = b <;> simp [h]
end Go.AI
end
section
/- Tiles: their numbers. -/
namespace Go.Proofs.Tryd.Ai
open Go Go.AI Go.Proofs
set_option maxHeartbeats 6000000
set_option maxRecDepth 2000
set_option linter.unusedVariables false

def tileA (H L N W : Int) : AV := .agg [.int .i64 H, .int .i64 L, .int .i64 N, .int .i64 W]
/-- may a tile's numbers be? -/
def fitsP (H L N W : Int) : Prop := 1 ≤ H ∧ H ≤ 8 ∧ 0 ≤ L ∧ 0 ≤ N ∧ 1 ≤ W ∧ W ≤ ((2 ^ H.toNat : Nat) : Int)
instance (H L N W : Int) : Decidable (fitsP H L N W) := by unfold fitsP; infer_instance
theorem pow8 {h : Nat} (hh : h ≤ 8) : 2 ^ h ≤ 256 := by
  have : 2 ^ h ≤ 2 ^ 8 := Nat.pow_le_pow_right (by omega) hh
  omega
theorem shl_one (h : Nat) (hh : h ≤ 8) : IntKind.i64.wrap (1 * 2 ^ min h 64) = ((2 ^ h : Nat) : Int) := by
  have := pow8 hh
  have e : min h 64 = h := by omega
  rw [e, Int.one_mul, show (2 : Int) ^ h = ((2 ^ h : Nat) : Int) by simp]
  obtain ⟨P, hP⟩ : ∃ P, 2 ^ h = P := ⟨_, rfl⟩
  rw [hP] at this ⊢
  exact wrap64 (by omega)
theorem fits_eq (H L N W : Int) (σ) : ev 29 [tileA H L N W] σ = some (.bool (decide (fitsP H L N W)), σ) := by
  simp only [tileA]
  refine EV_post rfl Tryd.func29 rfl (by simp [Tryd.ntmps29]) (by kernel_rfl) (by kernel_rfl) ?_
  refine Post_seq (Post_reg (st1 := ⟨[(0, .agg [.int .i64 H, .int .i64 L, .int .i64 N, .int .i64 W]), (1, .lp 1 0), (2, .bool false)], [(1, [.int .i64 H, .int .i64 L, .int .i64 N, .int .i64 W])], σ⟩) (by kernel_rfl) ?_)
  refine Post_seq (Post_draw [] ⟨[(0, .agg [.int .i64 H, .int .i64 L, .int .i64 N, .int .i64 W]), (1, .lp 1 0), (2, .bool false)], [(1, [.int .i64 H, .int .i64 L, .int .i64 N, .int .i64 W])], σ⟩ ⟨[(0, .agg [.int .i64 H, .int .i64 L, .int .i64 N, .int .i64 W]), (1, .lp 1 0), (2, .bool (decide (fitsP H L N W)))], [(1, [.int .i64 H, .int .i64 L, .int .i64 N, .int .i64 W])], σ⟩ rfl (by kernel_rfl) ?_ (by simp [Tryd.results29]))
  by_cases h1 : 1 ≤ H
  · by_cases h2 : H ≤ 8
    · by_cases h3 : 0 ≤ L
      · by_cases h4 : 0 ≤ N
        · by_cases h5 : 1 ≤ W
          · obtain ⟨h, rfl⟩ := Int.eq_ofNat_of_zero_le (show 0 ≤ H by omega)
            have hs := shl_one h (by omega)
            have hb : IntKind.i64.bits = 64 := rfl
            have hn : ¬ (h : Int) < 0 := by omega
            have hf : fitsP h L N W ↔ W ≤ ((2 ^ h : Nat) : Int) := by unfold fitsP; simp only [Int.toNat_natCast]; omega
            have hm : min h 64 = h := by omega
            rw [hm, Int.one_mul] at hs
            generalize ((2 ^ h : Nat) : Int) = P at *
            by_cases h6 : W ≤ P
            · have hd : decide (fitsP h L N W) = true := decide_eq_true (hf.2 h6)
              simp (maxSteps := 4000000) [List.getElem?_cons_zero, List.getElem?_cons_succ, h1, h2, h3, h4, h5, hn, hb, hm, hs, h6, hd]
            · have hd : decide (fitsP h L N W) = false := decide_eq_false (fun h => h6 (hf.1 h))
              simp (maxSteps := 4000000) [List.getElem?_cons_zero, List.getElem?_cons_succ, h1, h2, h3, h4, h5, hn, hb, hm, hs, h6, hd]
          · have hd : decide (fitsP H L N W) = false := decide_eq_false (fun h => h5 h.2.2.2.2.1)
            simp (maxSteps := 4000000) [List.getElem?_cons_zero, List.getElem?_cons_succ, h1, h2, h3, h4, h5, hd]
        · have hd : decide (fitsP H L N W) = false := decide_eq_false (fun h => h4 h.2.2.2.1)
          simp (maxSteps := 4000000) [List.getElem?_cons_zero, List.getElem?_cons_succ, h1, h2, h3, h4, hd]
      · have hd : decide (fitsP H L N W) = false := decide_eq_false (fun h => h3 h.2.2.1)
        simp (maxSteps := 4000000) [List.getElem?_cons_zero, List.getElem?_cons_succ, h1, h2, h3, hd]
    · have hd : decide (fitsP H L N W) = false := decide_eq_false (fun h => h2 h.2.1)
      simp (maxSteps := 4000000) [List.getElem?_cons_zero, List.getElem?_cons_succ, h1, h2, hd]
  · have hd : decide (fitsP H L N W) = false := decide_eq_false (fun h => h1 h.1)
    simp (maxSteps := 4000000) [List.getElem?_cons_zero, List.getElem?_cons_succ, h1, hd]
/-- is a tile within some records? -/
def tileP (n : Nat) (H L N W : Int) : Prop := fitsP H L N W ∧ H * L ≤ 20 ∧ N ≤ 1048576 ∧ (N.toNat * 2 ^ H.toNat + W.toNat) * 2 ^ (H * L).toNat ≤ n
instance (n : Nat) (H L N W : Int) : Decidable (tileP n H L N W) := by unfold tileP; infer_instance
theorem in_eq (n : Nat) (hn : n ≤ 1048576) (H L N W : Int) (σ) : ev 16 [tileA H L N W, .int .i64 n] σ = some (.bool (decide (tileP n H L N W)), σ) := by
  have hF := fits_eq H L N W
  simp only [tileA] at hF ⊢
  refine EV_post rfl Tryd.func16 rfl (by simp [Tryd.ntmps16]) (by kernel_rfl) (by kernel_rfl) ?_
  refine Post_seq (Post_reg (st1 := ⟨[(0, .agg [.int .i64 H, .int .i64 L, .int .i64 N, .int .i64 W]), (1, .int .i64 n), (2, .lp 2 0), (4, .bool false)], [(2, [.int .i64 H, .int .i64 L, .int .i64 N, .int .i64 W])], σ⟩) (by kernel_rfl) ?_)
  refine Post_seq (Post_draw [] ⟨[(0, .agg [.int .i64 H, .int .i64 L, .int .i64 N, .int .i64 W]), (1, .int .i64 n), (2, .lp 2 0), (4, .bool false)], [(2, [.int .i64 H, .int .i64 L, .int .i64 N, .int .i64 W])], σ⟩ ⟨[(0, .agg [.int .i64 H, .int .i64 L, .int .i64 N, .int .i64 W]), (1, .int .i64 n), (2, .lp 2 0), (4, .bool (decide (tileP n H L N W)))], [(2, [.int .i64 H, .int .i64 L, .int .i64 N, .int .i64 W])], σ⟩ rfl (by kernel_rfl) ?_ (by simp [Tryd.results16]))
  by_cases hf : fitsP H L N W
  · rw [decide_eq_true hf] at hF
    obtain ⟨f1, f2, f3, f4, f5, f6⟩ := hf
    obtain ⟨h, rfl⟩ := Int.eq_ofNat_of_zero_le (show 0 ≤ H by omega)
    obtain ⟨l, rfl⟩ := Int.eq_ofNat_of_zero_le (show 0 ≤ L by omega)
    obtain ⟨k, rfl⟩ := Int.eq_ofNat_of_zero_le (show 0 ≤ N by omega)
    obtain ⟨w, rfl⟩ := Int.eq_ofNat_of_zero_le (show 0 ≤ W by omega)
    have hh0 : ¬ h = 0 := by omega
    have hd1 : (20 : Int).tdiv h = ((20 / h : Nat) : Int) := by rw [Int.tdiv_eq_ediv_of_nonneg (by omega)]; simp
    have hw20 : IntKind.i64.wrap ((20 / h : Nat) : Int) = ((20 / h : Nat) : Int) := by have := Nat.div_le_self 20 h; generalize 20 / h = D at *; exact wrap64 (by omega)
    have hq : l ≤ 20 / h ↔ h * l ≤ 20 := by rw [Nat.le_div_iff_mul_le (by omega), Nat.mul_comm]
    simp only [Int.toNat_natCast] at f6
    have hp := pow8 (h := h) (by omega)
    have hT : tileP n h l k w ↔ l ≤ 20 / h ∧ k ≤ 1048576 ∧ (k * 2 ^ h + w) * 2 ^ (h * l) ≤ n := by
      rw [hq]
      unfold tileP fitsP
      simp only [Int.toNat_natCast, show ((h : Int) * (l : Int)).toNat = h * l by rw [← Int.natCast_mul]; rfl]
      have : ((h : Int) * l ≤ 20) ↔ h * l ≤ 20 := by rw [← Int.natCast_mul]; omega
      rw [this]
      constructor
      · rintro ⟨_, a, b, c⟩; exact ⟨a, by omega, c⟩
      · rintro ⟨a, b, c⟩; exact ⟨⟨f1, f2, f3, f4, f5, f6⟩, a, by omega, c⟩
    by_cases c1 : l ≤ 20 / h
    · by_cases c2 : k ≤ 1048576
      · have hl20 := hq.1 c1
        have hll : l ≤ 20 := by
          have : l ≤ h * l := Nat.le_mul_of_pos_left _ (by omega)
          omega
        have w1 : IntKind.i64.wrap ((h : Int) * l) = ((h * l : Nat) : Int) := by rw [← Int.natCast_mul]; exact wrap64 (by omega)
        have hkp : k * 2 ^ h ≤ 1048576 * 256 := Nat.mul_le_mul c2 hp
        have hm : min h 64 = h := by omega
        have w2 : IntKind.i64.wrap ((k : Int) * 2 ^ h) = ((k * 2 ^ h : Nat) : Int) := by
          rw [show (k : Int) * 2 ^ h = ((k * 2 ^ h : Nat) : Int) by simp]
          generalize k * 2 ^ h = X at *
          exact wrap64 (by omega)
        have w3 : IntKind.i64.wrap (((k * 2 ^ h : Nat) : Int) + w) = ((k * 2 ^ h + w : Nat) : Int) := by
          have : (w : Int) ≤ 256 := by
            have := f6
            generalize 2 ^ h = P at *
            omega
          clear f6 w2
          generalize k * 2 ^ h = X at *
          rw [wrap64 (by omega)]; omega
        have w4 : IntKind.i64.wrap (((k * 2 ^ h + w : Nat) : Int) - 1) = ((k * 2 ^ h + w - 1 : Nat) : Int) := by
          have : (w : Int) ≤ 256 := by
            have := f6
            generalize 2 ^ h = P at *
            omega
          clear f6 w2 w3
          generalize k * 2 ^ h = X at *
          rw [wrap64 (by omega)]; omega
        have hW := within_eq n ((h * l : Nat) : Int) ((k * 2 ^ h + w - 1 : Nat) : Int) (by omega)
        have hin : (0 ≤ ((h * l : Nat) : Int) ∧ ((h * l : Nat) : Int) ≤ 20 ∧ 0 ≤ ((k * 2 ^ h + w - 1 : Nat) : Int) ∧ ((k * 2 ^ h + w - 1 : Nat) : Int) < (n : Int).fdiv (2 ^ ((h * l : Nat) : Int).toNat)) ↔ (k * 2 ^ h + w) * 2 ^ (h * l) ≤ n := by
          rw [Int.toNat_natCast, fdiv_pow]
          have hpos : 0 < 2 ^ (h * l) := Nat.two_pow_pos _
          have := Nat.le_div_iff_mul_le (x := k * 2 ^ h + w) (y := n) hpos
          clear w2 w3 w4 f6 hkp hT hW
          generalize (k * 2 ^ h + w) * 2 ^ (h * l) = Q at *
          generalize n / 2 ^ (h * l) = D at *
          generalize k * 2 ^ h = X at *
          omega
        have hdec : decide (0 ≤ ((h * l : Nat) : Int) ∧ ((h * l : Nat) : Int) ≤ 20 ∧ 0 ≤ ((k * 2 ^ h + w - 1 : Nat) : Int) ∧ ((k * 2 ^ h + w - 1 : Nat) : Int) < (n : Int).fdiv (2 ^ ((h * l : Nat) : Int).toNat)) = decide (tileP n h l k w) := by
          rw [decide_eq_decide, hin, hT]
          exact ⟨fun x => ⟨c1, c2, x⟩, fun x => x.2.2⟩
        rw [hdec] at hW
        generalize k * 2 ^ h + w - 1 = Z at *
        generalize hZ : k * 2 ^ h + w = Y at *
        generalize k * 2 ^ h = X at *
        generalize h * l = G at *
        generalize 20 / h = D at *
        generalize decide (tileP n h l k w) = B at *
        have hneg : ¬ (h : Int) < 0 := by omega
        have hb : IntKind.i64.bits = 64 := rfl
        simp (maxSteps := 4000000) [List.getElem?_cons_zero, List.getElem?_cons_succ, hF, hh0, hd1, hw20, c1, c2, w1, hm, hb, w2, w3, w4, hW]
      · have hd : decide (tileP n h l k w) = false := decide_eq_false (fun x => c2 (hT.1 x).2.1)
        generalize 20 / h = D at *
        simp (maxSteps := 4000000) [List.getElem?_cons_zero, List.getElem?_cons_succ, hF, hh0, hd1, hw20, c1, c2, hd]
    · have hd : decide (tileP n h l k w) = false := decide_eq_false (fun x => c1 (hT.1 x).1)
      generalize 20 / h = D at *
      simp (maxSteps := 4000000) [List.getElem?_cons_zero, List.getElem?_cons_succ, hF, hh0, hd1, hw20, c1, hd]
  · rw [decide_eq_false hf] at hF
    have hd : decide (tileP n H L N W) = false := decide_eq_false (fun h => hf h.1)
    simp (maxSteps := 4000000) [List.getElem?_cons_zero, List.getElem?_cons_succ, hF, hd]
end Go.Proofs.Tryd.Ai
end
section
/- Tiles: which one has a hash. -/
namespace Go.Proofs.Tryd.Ai
open Go Go.AI Go.Proofs
set_option maxHeartbeats 6000000
set_option maxRecDepth 2000
set_option linter.unusedVariables false

/-- how wide a tile is -/
def wideN (h n l number : Nat) : Int := if ((n / 2 ^ (h * l) : Nat) : Int) - ((number * 2 ^ h : Nat) : Int) < ((2 ^ h : Nat) : Int) then ((n / 2 ^ (h * l) : Nat) : Int) - ((number * 2 ^ h : Nat) : Int) else ((2 ^ h : Nat) : Int)
theorem wide_eq (h n l number : Nat) (h8 : h ≤ 8) (hl : h * l ≤ 2 ^ 20) (hn : n ≤ 1048576) (hk : number ≤ 2 ^ 24) (σ) :
    ev 15 [.int .i64 h, .int .i64 n, .int .i64 l, .int .i64 number] σ = some (tileA h l number (wideN h n l number), σ) := by
  have hm : min h 64 = h := by omega
  have hs := shl_one h h8
  rw [hm, Int.one_mul] at hs
  have hp := pow8 h8
  have w1 : IntKind.i64.wrap ((h : Int) * l) = ((h * l : Nat) : Int) := by
    rw [← Int.natCast_mul]; generalize h * l = G at *; exact wrap64 (by omega)
  have hf : (n : Int).fdiv (2 ^ min (h * l) 64) = ((n / 2 ^ (h * l) : Nat) : Int) := by
    rw [fdiv_pow]
    by_cases q : h * l ≤ 64
    · rw [show min (h * l) 64 = h * l by omega]
    · rw [show min (h * l) 64 = 64 by omega, Nat.div_eq_of_lt (show n < 2 ^ 64 by omega)]
      rw [Nat.div_eq_of_lt]
      have : 2 ^ 64 ≤ 2 ^ (h * l) := Nat.pow_le_pow_right (by omega) (by omega)
      omega
  have hkp : number * 2 ^ h ≤ 2 ^ 24 * 256 := Nat.mul_le_mul hk hp
  have w2 : IntKind.i64.wrap ((number : Int) * 2 ^ h) = ((number * 2 ^ h : Nat) : Int) := by
    rw [show (number : Int) * 2 ^ h = ((number * 2 ^ h : Nat) : Int) by simp]
    generalize number * 2 ^ h = X at *
    exact wrap64 (by omega)
  have hd : n / 2 ^ (h * l) ≤ n := Nat.div_le_self _ _
  have w3 : IntKind.i64.wrap (((n / 2 ^ (h * l) : Nat) : Int) - ((number * 2 ^ h : Nat) : Int)) = ((n / 2 ^ (h * l) : Nat) : Int) - ((number * 2 ^ h : Nat) : Int) := by
    clear w2 hf hs
    generalize n / 2 ^ (h * l) = D at *
    generalize number * 2 ^ h = X at *
    exact wrap64 (by omega)
  have hb : IntKind.i64.bits = 64 := rfl
  have hn1 : ¬ (h : Int) < 0 := by omega
  have hn2 : ¬ ((h * l : Nat) : Int) < 0 := by generalize h * l = G; omega
  have hW : wideN h n l number = if ((n / 2 ^ (h * l) : Nat) : Int) - ((number * 2 ^ h : Nat) : Int) < ((2 ^ h : Nat) : Int) then ((n / 2 ^ (h * l) : Nat) : Int) - ((number * 2 ^ h : Nat) : Int) else ((2 ^ h : Nat) : Int) := rfl
  simp only [tileA]
  rw [hW]
  clear hW hkp hp
  obtain ⟨D, hD⟩ : ∃ D : Nat, n / 2 ^ (h * l) = D := ⟨_, rfl⟩
  obtain ⟨X, hX⟩ : ∃ X : Nat, number * 2 ^ h = X := ⟨_, rfl⟩
  obtain ⟨P, hP⟩ : ∃ P : Nat, 2 ^ h = P := ⟨_, rfl⟩
  obtain ⟨G, hG⟩ : ∃ G : Nat, h * l = G := ⟨_, rfl⟩
  rw [hD] at hf w3 ⊢
  rw [hX] at w2 w3 ⊢
  rw [hP] at hs ⊢
  rw [hG] at w1 hf hn2
  clear hD hX hP hG hl hd
  have hwn : ∀ z : Int, -9223372036854775808 ≤ z → z ≤ 9223372036854775807 → IntKind.i64.wrap z = z := fun z a b => wrap64 ⟨a, b⟩
  refine EV_post rfl Tryd.func15 rfl (by simp [Tryd.ntmps15]) (by kernel_rfl) (by kernel_rfl) ?_
  refine Post_seq (Post_reg (st1 := ⟨[(0, .int .i64 h), (1, .int .i64 n), (2, .int .i64 l), (3, .int .i64 number), (8, .lp 8 0)], [(8, [.int .i64 0, .int .i64 0, .int .i64 0, .int .i64 0])], σ⟩) (by kernel_rfl) ?_)
  refine Post_seq (Post_draw [] ⟨[(0, .int .i64 h), (1, .int .i64 n), (2, .int .i64 l), (3, .int .i64 number), (8, .lp 8 0)], [(8, [.int .i64 0, .int .i64 0, .int .i64 0, .int .i64 0])], σ⟩ ⟨[(0, .int .i64 h), (1, .int .i64 n), (2, .int .i64 l), (3, .int .i64 number), (8, .lp 8 0)], [(8, [.int .i64 h, .int .i64 l, .int .i64 number, .int .i64 (if (D : Int) - X < P then (D : Int) - X else P)])], σ⟩ rfl (by kernel_rfl) ?_ (by simp [Tryd.results15]))
  simp (maxSteps := 4000000) [List.getElem?_cons_zero, List.getElem?_cons_succ, hm, hb, hs, hn1, w1, hf, hn2, w2, w3]
end Go.Proofs.Tryd.Ai
end
section
/- Tiles: which numbers may be. -/
namespace Go.Proofs.Tryd.Ai
open Go Go.AI Go.Proofs
set_option maxHeartbeats 8000000
set_option maxRecDepth 4000
set_option linter.unusedVariables false

def numP (H L N W : Int) : Prop := 1 ≤ H ∧ H ≤ 8 ∧ 0 ≤ L ∧ L ≤ 20 ∧ H * L ≤ 20 ∧ 0 ≤ N ∧ N ≤ 1048576 ∧ 1 ≤ W ∧ W ≤ ((2 ^ H.toNat : Nat) : Int)
instance (H L N W : Int) : Decidable (numP H L N W) := by unfold numP; infer_instance
theorem tileP_num (n : Nat) (H L N W : Int) : tileP n H L N W ↔ numP H L N W ∧ (N.toNat * 2 ^ H.toNat + W.toNat) * 2 ^ (H * L).toNat ≤ n := by
  unfold tileP fitsP numP
  constructor
  · rintro ⟨⟨a, b, c, d, e, f⟩, g, h, i⟩
    refine ⟨⟨a, b, c, ?_, g, d, h, e, f⟩, i⟩
    have : L ≤ H * L := by
      have := Int.mul_le_mul_of_nonneg_right a c
      omega
    omega
  · rintro ⟨⟨a, b, c, _, g, d, h, e, f⟩, i⟩
    exact ⟨⟨a, b, c, d, e, f⟩, g, h, i⟩
end Go.Proofs.Tryd.Ai
end
section
/- Tiles: a number in three digits. -/
namespace Go.Proofs.Tryd.Ai
open Go Go.AI Go.Proofs
set_option maxHeartbeats 4000000
set_option maxRecDepth 4000
set_option linter.unusedVariables false

theorem Itoa_eq (n : Nat) (hn : n < 10 ^ 18) (σ) : ev 18 [.int .i64 n] σ = some (.str (Lib.decDigits n), σ) := by
  rw [ev_Itoa]
  have : Lib.itoa (n : Int) = Lib.decDigits n := by unfold Lib.itoa; rw [if_neg (by omega)]; simp
  simp only [itoaT]
  rw [need_of (by omega), this]
theorem dec_len (n : Nat) (hn : n < 1000) : (Lib.decDigits n).length ≤ 3 := by
  have h : ∀ m : Fin 1000, (Lib.decDigits m.val).length ≤ 3 := by decide +kernel
  exact h ⟨n, hn⟩
theorem three_eq (n : Nat) (hn : n < 1000) (σ) : ev 17 [.int .i64 n] σ = some (.str (threeN n), σ) := by
  refine EV_post rfl Tryd.func17 rfl (by simp [Tryd.ntmps17]) (by kernel_rfl) (by kernel_rfl) ?_
  have hl := dec_len n hn
  have h1 := Itoa_eq n (by omega)
  obtain ⟨c, hc⟩ : ∃ c, (Lib.decDigits n).length = c := ⟨_, rfl⟩
  have w1 : IntKind.i64.wrap (3 - (c : Int)) = ((3 - c : Nat) : Int) := by rw [wrap64 (by omega)]; omega
  have h2 : ∀ σ, ev 30 [.str [48], .int .i64 ((3 - c : Nat) : Int)] σ = some (.str (Lib.repeatL [48] (3 - c)), σ) := by
    intro σ
    rw [ev_Repeat]
    simp only [repeatT]
    rw [need_of (by refine ⟨by omega, by omega, ?_⟩; simp; omega)]
    simp
  have h3 : (Lib.repeatL [48] (3 - c)).length = 3 - c := by clear h1 h2 w1 hc hl; generalize 3 - c = k; induction k with | zero => rfl | succ k ih => simp_all [Lib.repeatL]
  have h4 : (Lib.repeatL [48] (3 - c)).length + c ≤ most := by rw [h3, most]; omega
  simp (maxSteps := 4000000) [List.getElem?_cons_zero, List.getElem?_cons_succ, h1, hc, w1, h2, need_of h4, threeN, Tryd.results17]
end Go.Proofs.Tryd.Ai
end
section
/- Where a tile is found: both sides print it. -/
namespace Go.Proofs.Tryd.Ai
open Go Go.AI Go.Proofs
set_option maxHeartbeats 8000000
set_option maxRecDepth 4000
set_option linter.unusedVariables false

section
variable {P : Program} {h : Hint} {C : Oracle}
/-- a region apart from what follows it -/
theorem Post_bndR {ops : List Oper} {d : Bool} {st : St} {F : St → St} {K : Ex → St → Prop} (st2 : St) (e : bnd (regionA P h C ops d st) (fun st => some (F st)) = some st2) (k : K .normal st2) : Post (bnd (regionA P h C ops d st) fun st => some (Ex.normal, F st)) K := by
  obtain ⟨s, h1, h2⟩ := bnd_eq e
  rw [h1]
  injection h2 with h2
  subst h2
  exact ⟨_, _, rfl, k⟩
end
/-- where a tile is found, of any numbers -/
def pathQ (H L N W : Int) : List UInt8 × Int := if tileP 1048576 H L N W then (pathT H.toNat L.toNat N.toNat W.toNat, 0) else ([], 15)
theorem tile_bound {h l k w : Nat} (ht : tileP 1048576 h l k w) : 1 ≤ h ∧ h ≤ 8 ∧ l ≤ 20 ∧ k < 524288 ∧ 1 ≤ w ∧ w ≤ 256 ∧ w ≤ 2 ^ h := by
  have hn := ((tileP_num 1048576 h l k w).1 ht).1
  have hb := ((tileP_num 1048576 h l k w).1 ht).2
  obtain ⟨a1, a2, a3, a4, a5, a6, a7, a8, a9⟩ := hn
  simp only [Int.toNat_natCast] at hb a9
  have hp := pow8 (h := h) (by omega)
  have h2 : 2 ^ 1 ≤ 2 ^ h := Nat.pow_le_pow_right (by omega) (by omega)
  have hq : 0 < 2 ^ ((h : Int) * l).toNat := Nat.two_pow_pos _
  have hb2 : k * 2 ^ h + w ≤ 1048576 := Nat.le_trans (Nat.le_mul_of_pos_right _ hq) hb
  have hk2 : k * 2 ≤ k * 2 ^ h := Nat.mul_le_mul_left _ (by omega)
  have hw : w ≤ 2 ^ h := by exact Int.ofNat_le.1 a9
  refine ⟨by omega, by omega, by omega, by omega, by omega, by omega, hw⟩
theorem nT_len {n : Nat} (h : n < 1000000) : (nT n).length ≤ 8 := by
  unfold nT
  split
  · rename_i q; rw [three_len q]; omega
  · have q1 : n / 1000 < 1000 := by omega
    have q2 : n % 1000 < 1000 := by omega
    have a1 := three_len q1
    have a2 := three_len q2
    simp only [List.length_append, List.length_cons]; omega
theorem Path_eq (H L N W : Int) (σ) : ev 7 [tileA H L N W] σ = some (.tup [.str (pathQ H L N W).1, .int .i64 (pathQ H L N W).2], σ) := by
  have hI : ∀ σ, ev 16 [tileA H L N W, .int .i64 1048576] σ = some (.bool (decide (tileP 1048576 H L N W)), σ) := fun σ => in_eq 1048576 (by omega) H L N W σ
  by_cases ht : tileP 1048576 H L N W
  · have hQ : pathQ H L N W = (pathT H.toNat L.toNat N.toNat W.toNat, 0) := by unfold pathQ; rw [if_pos ht]
    rw [hQ]
    rw [decide_eq_true ht] at hI
    obtain ⟨a1, a2, a3, a4, a5, a6, a7, a8, a9⟩ := ((tileP_num 1048576 H L N W).1 ht).1
    obtain ⟨h, rfl⟩ := Int.eq_ofNat_of_zero_le (show 0 ≤ H by omega)
    obtain ⟨l, rfl⟩ := Int.eq_ofNat_of_zero_le (show 0 ≤ L by omega)
    obtain ⟨k, rfl⟩ := Int.eq_ofNat_of_zero_le (show 0 ≤ N by omega)
    obtain ⟨w, rfl⟩ := Int.eq_ofNat_of_zero_le (show 0 ≤ W by omega)
    obtain ⟨b1, b2, b3, b4, b5, b6, b7⟩ := tile_bound ht
    simp only [Int.toNat_natCast]
    have k1 : k % 1000 < 1000 := by omega
    have hT1 := three_eq (k % 1000) k1
    have hT2 : ∀ m : Nat, m < 1000 → ∀ σ, ev 17 [.int .i64 m] σ = some (.str (threeN m), σ) := fun m hm σ => three_eq m hm σ
    have r1 : (k : Int).tmod 1000 = ((k % 1000 : Nat) : Int) := by rw [Int.tmod_eq_emod_of_nonneg (by omega)]; omega
    have d1 : (k : Int).tdiv 1000 = ((k / 1000 : Nat) : Int) := by rw [Int.tdiv_eq_ediv_of_nonneg (by omega)]; omega
    have hkd : k / 1000 < 1000 := by omega
    have w1 : IntKind.i64.wrap ((k / 1000 : Nat) : Int) = ((k / 1000 : Nat) : Int) := wrap64 (by omega)
    have hIh := Itoa_eq h (by omega)
    have hIl := Itoa_eq l (by omega)
    have hIw := Itoa_eq w (by omega)
    have s1 := shl_one h (by omega)
    have m1 : min h 64 = h := by omega
    rw [m1, Int.one_mul] at s1
    have l1 := decDigits_len 2 h (by omega)
    have l2 := decDigits_len 2 l (by omega)
    have l3 := decDigits_len 2 w (by omega)
    have ln := nT_len (n := k) (by omega)
    have hP : pathT h l k w = (tileB ++ [47] ++ Lib.decDigits h ++ [47] ++ Lib.decDigits l ++ [47] ++ nT k) ++ (if w = 2 ^ h then [] else [46, 112, 47] ++ Lib.decDigits w) := by simp [pathT, bodyT]
    rw [hP]
    clear hP hQ
    have hn1 : ¬ (h : Int) < 0 := by omega
    have hbt : IntKind.i64.bits = 64 := rfl
    have hcast : ((w : Int) = ((2 ^ h : Nat) : Int)) ↔ w = 2 ^ h := by omega
    obtain ⟨A, hA⟩ : ∃ A, Lib.decDigits h = A := ⟨_, rfl⟩
    obtain ⟨B, hB⟩ : ∃ B, Lib.decDigits l = B := ⟨_, rfl⟩
    obtain ⟨D, hD⟩ : ∃ D, Lib.decDigits w = D := ⟨_, rfl⟩
    obtain ⟨M, hM⟩ : ∃ M, nT k = M := ⟨_, rfl⟩
    rw [hA] at hIh l1 ⊢
    rw [hB] at hIl l2 ⊢
    rw [hD] at hIw l3 ⊢
    rw [hM] at ln ⊢
    obtain ⟨pw, hpw⟩ : ∃ pw, 2 ^ h = pw := ⟨_, rfl⟩
    rw [hpw] at s1 hcast ⊢
    have hx : k / 1000 = 0 → threeN (k % 1000) = M := fun e => by
      rw [← hM]; unfold nT; rw [if_pos (by omega)]; congr 1; omega
    have hy : ¬ k / 1000 = 0 → 120 :: (threeN (k / 1000) ++ 47 :: threeN (k % 1000)) = M := fun e => by
      rw [← hM]; unfold nT; rw [if_neg (by omega)]; rfl
    have t1 := three_len k1
    simp only [tileA] at hI ⊢
    obtain ⟨q, hq⟩ : ∃ q, k / 1000 = q := ⟨_, rfl⟩
    rw [hq] at d1 hkd w1 hx hy
    obtain ⟨r, hr⟩ : ∃ r, k % 1000 = r := ⟨_, rfl⟩
    rw [hr] at r1 hT1 hx hy t1
    clear hA hB hD hM ht
    refine EV_post rfl Tryd.func7 rfl (by simp [Tryd.ntmps7]) (by kernel_rfl) (by kernel_rfl) ?_
    simp (maxSteps := 4000000) [List.getElem?_cons_zero, List.getElem?_cons_succ, hI, r1, d1, w1, hT1]
    refine Post_loop (I := fun p : Nat × List UInt8 => ⟨[(1, .lp 1 0), (4, .str p.2), (5, .int .i64 p.1)], [(1, [.int .i64 h, .int .i64 l, .int .i64 k, .int .i64 w])], σ⟩)
      (Pr := fun p => (p.1 = q ∧ p.2 = threeN r ∧ ¬ q = 0) ∨ (p.1 = 0 ∧ p.2 = M)) (μ := fun p => p.1) (a := (q, threeN r)) (by simp) (by
        by_cases e : q = 0
        · exact .inr ⟨e, hx e⟩
        · exact .inl ⟨rfl, rfl, e⟩) ?_
    rintro ⟨p, s⟩ (⟨hp, hs, hq0⟩ | ⟨hp, hs⟩)
    · simp only at hp hs
      subst hp hs
      have g0 : 0 < p := by omega
      have r2 : (p : Int).tmod 1000 = (p : Int) := by rw [Int.tmod_eq_emod_of_nonneg (by omega)]; omega
      have d2 : (p : Int).tdiv 1000 = 0 := by rw [Int.tdiv_eq_ediv_of_nonneg (by omega)]; omega
      have w2 : IntKind.i64.wrap 0 = 0 := wrap64 (by omega)
      have t2 := three_len hkd
      have hT3 := hT2 p hkd
      have hy' := hy (by omega)
      obtain ⟨X, hX⟩ : ∃ X, threeN p = X := ⟨_, rfl⟩
      obtain ⟨Y, hY⟩ : ∃ Y, threeN r = Y := ⟨_, rfl⟩
      rw [hX] at t2 hT3 hy'
      rw [hY] at t1 hy' ⊢
      simp (maxSteps := 4000000) [List.getElem?_cons_zero, List.getElem?_cons_succ, g0, r2, d2, w2, hT3]
      repeat (rw [need_of]; rotate_left; (· (try unfold most); omega); simp (maxSteps := 4000000) [List.getElem?_cons_zero, List.getElem?_cons_succ, g0, r2, d2, w2, hT3])
      exact ⟨0, M, .inr ⟨rfl, rfl⟩, by omega, by rw [← hy']; simp⟩
    · simp only at hp hs
      subst hp hs
      by_cases hw : w = pw
      · have hww : ((w : Int) = (pw : Int)) := hcast.2 hw
        rw [if_pos hw]
        simp (maxSteps := 4000000) [List.getElem?_cons_zero, List.getElem?_cons_succ, -regionA_true]
        refine Post_bndR ⟨[(1, .lp 1 0), (4, .str (tileB ++ [47] ++ A ++ [47] ++ B ++ [47] ++ s)), (5, .int .i64 0)], [(1, [.int .i64 h, .int .i64 l, .int .i64 k, .int .i64 w])], σ⟩ ?_ ?_
        · simp (maxSteps := 4000000) [List.getElem?_cons_zero, List.getElem?_cons_succ, -List.append_assoc, hIh, hIl, tileB]
          repeat (rw [need_of]; rotate_left; (· (try unfold most); omega); simp (maxSteps := 4000000) [List.getElem?_cons_zero, List.getElem?_cons_succ, -List.append_assoc, hIh, hIl, tileB])
        simp (maxSteps := 4000000) [List.getElem?_cons_zero, List.getElem?_cons_succ, -regionA_true]
        refine Post_bndR ⟨[(1, .lp 1 0), (4, .str (tileB ++ [47] ++ A ++ [47] ++ B ++ [47] ++ s)), (5, .int .i64 0), (44, .bool false)], [(1, [.int .i64 h, .int .i64 l, .int .i64 k, .int .i64 w])], σ⟩ ?_ ?_
        · simp (maxSteps := 4000000) [List.getElem?_cons_zero, List.getElem?_cons_succ, m1, hbt, hn1, s1, hww]
        simp (maxSteps := 4000000) [List.getElem?_cons_zero, List.getElem?_cons_succ, Tryd.results7]
      · have hww : ¬ ((w : Int) = (pw : Int)) := fun e => hw (hcast.1 e)
        rw [if_neg hw]
        simp (maxSteps := 4000000) [List.getElem?_cons_zero, List.getElem?_cons_succ, -regionA_true]
        refine Post_bndR ⟨[(1, .lp 1 0), (4, .str (tileB ++ [47] ++ A ++ [47] ++ B ++ [47] ++ s)), (5, .int .i64 0)], [(1, [.int .i64 h, .int .i64 l, .int .i64 k, .int .i64 w])], σ⟩ ?_ ?_
        · simp (maxSteps := 4000000) [List.getElem?_cons_zero, List.getElem?_cons_succ, -List.append_assoc, hIh, hIl, tileB]
          repeat (rw [need_of]; rotate_left; (· (try unfold most); omega); simp (maxSteps := 4000000) [List.getElem?_cons_zero, List.getElem?_cons_succ, -List.append_assoc, hIh, hIl, tileB])
        simp (maxSteps := 4000000) [List.getElem?_cons_zero, List.getElem?_cons_succ, -regionA_true]
        refine Post_bndR ⟨[(1, .lp 1 0), (4, .str (tileB ++ [47] ++ A ++ [47] ++ B ++ [47] ++ s)), (5, .int .i64 0), (44, .bool true)], [(1, [.int .i64 h, .int .i64 l, .int .i64 k, .int .i64 w])], σ⟩ ?_ ?_
        · simp (maxSteps := 4000000) [List.getElem?_cons_zero, List.getElem?_cons_succ, m1, hbt, hn1, s1, hww]
        obtain ⟨Z, hZ⟩ : ∃ Z, tileB ++ [47] ++ A ++ [47] ++ B ++ [47] ++ s = Z := ⟨_, rfl⟩
        have hZl : Z.length ≤ 40 := by rw [← hZ]; simp [tileB]; omega
        rw [hZ]
        simp (maxSteps := 4000000) [List.getElem?_cons_zero, List.getElem?_cons_succ, -List.append_assoc, hIw, Tryd.results7]
        repeat (rw [need_of]; rotate_left; (· (try unfold most); omega); simp (maxSteps := 4000000) [List.getElem?_cons_zero, List.getElem?_cons_succ, -List.append_assoc, hIw, Tryd.results7])
        rw [← hZ]; simp
  · have hQ : pathQ H L N W = ([], 15) := by unfold pathQ; rw [if_neg ht]
    rw [decide_eq_false ht] at hI
    simp only [tileA] at hI ⊢
    refine EV_post rfl Tryd.func7 rfl (by simp [Tryd.ntmps7]) (by kernel_rfl) (by kernel_rfl) ?_
    simp (maxSteps := 4000000) [List.getElem?_cons_zero, List.getElem?_cons_succ, hI, hQ, Tryd.results7]
end Go.Proofs.Tryd.Ai
end
section
/- All tiles of a log: both sides. -/
namespace Go.Proofs.Tryd.Ai
open Go Go.AI Go.Proofs
set_option maxHeartbeats 8000000
set_option maxRecDepth 4000
set_option linter.unusedVariables false

def cntT (h n l : Nat) : Nat := (n / 2 ^ (h * l) + 2 ^ h - 1) / 2 ^ h
theorem cnt_lt (h n l k : Nat) : k < cntT h n l ↔ k * 2 ^ h < n / 2 ^ (h * l) := by
  have hp : 0 < 2 ^ h := Nat.two_pow_pos _
  unfold cntT
  have := Nat.le_div_iff_mul_le hp (x := k + 1) (y := n / 2 ^ (h * l) + 2 ^ h - 1)
  rw [Nat.add_mul, Nat.one_mul] at this
  generalize (n / 2 ^ (h * l) + 2 ^ h - 1) / 2 ^ h = C at *
  generalize k * 2 ^ h = X at *
  generalize n / 2 ^ (h * l) = D at *
  generalize 2 ^ h = P at *
  omega
theorem cnt_le (h n l : Nat) : cntT h n l ≤ n := by
  rcases Nat.lt_or_ge n (cntT h n l) with q | q
  · have h1 := (cnt_lt h n l n).1 q
    have h2 : n / 2 ^ (h * l) ≤ n := Nat.div_le_self _ _
    have h3 : n ≤ n * 2 ^ h := Nat.le_mul_of_pos_right _ (Nat.two_pow_pos _)
    omega
  · exact q
def rowTs (h n l c : Nat) : List AV := (List.range c).map fun k : Nat => tileA h l k (wideN h n l k)
theorem rowTs_succ (h n l c : Nat) : rowTs h n l (c + 1) = rowTs h n l c ++ [tileA h l c (wideN h n l c)] := by
  unfold rowTs; rw [List.range_succ, List.map_append]; rfl
theorem rowTs_len (h n l c : Nat) : (rowTs h n l c).length = c := by simp [rowTs]
def tilesN (h n j : Nat) : List AV := (List.range j).flatMap fun l => rowTs h n l (cntT h n l)
theorem tilesN_succ (h n j : Nat) : tilesN h n (j + 1) = tilesN h n j ++ rowTs h n j (cntT h n j) := by
  unfold tilesN; rw [List.range_succ, List.flatMap_append]; simp
theorem tilesN_len (h n j : Nat) : (tilesN h n j).length ≤ j * n := by
  induction j with
  | zero => simp [tilesN]
  | succ j ih =>
    rw [tilesN_succ, List.length_append, rowTs_len, Nat.succ_mul]
    have := cnt_le h n j
    omega
theorem tilesN_end (h n : Nat) (hh : 1 ≤ h) : ∀ d j, n / 2 ^ (h * j) = 0 → tilesN h n (j + d) = tilesN h n j := by
  intro d
  induction d with
  | zero => intro j _; rfl
  | succ d ih =>
    intro j hj
    have e : n / 2 ^ (h * (j + d)) = 0 := by
      have hp : 0 < 2 ^ (h * j) := Nat.two_pow_pos _
      have h1 : n < 2 ^ (h * j) := by
        rcases Nat.lt_or_ge n (2 ^ (h * j)) with q | q
        · exact q
        · have := Nat.div_pos q hp; omega
      have h2 : 2 ^ (h * j) ≤ 2 ^ (h * (j + d)) := Nat.pow_le_pow_right (by omega) (Nat.mul_le_mul_left _ (by omega))
      exact Nat.div_eq_of_lt (by omega)
    have hc : cntT h n (j + d) = 0 := by
      rcases Nat.eq_zero_or_pos (cntT h n (j + d)) with q | q
      · exact q
      · have := (cnt_lt h n (j + d) 0).1 q; rw [e] at this; omega
    rw [← Nat.add_assoc, tilesN_succ, hc, ih j hj]
    simp [rowTs]
theorem tilesN_all (h n j : Nat) (hh : 1 ≤ h) (hj : j ≤ 21) (h0 : n / 2 ^ (h * j) = 0) : tilesN h n j = tilesN h n 21 := by
  have := tilesN_end h n hh (21 - j) j h0
  rw [show j + (21 - j) = 21 by omega] at this
  exact this.symm
theorem tile_cells (h n l c : Nat) : allCells 4 (rowTs h n l c) := fun y hy => by
  obtain ⟨k, _, rfl⟩ := List.mem_map.1 hy
  exact ⟨rfl, fun c hc => by simp [tileA, AV.cells] at hc; rcases hc with rfl | rfl | rfl | rfl <;> rfl⟩
def tilesQ (h n : Int) : List AV × Int := if 1 ≤ h ∧ h ≤ 8 ∧ 0 ≤ n ∧ n ≤ 1048576 then (tilesN h.toNat n.toNat 21, 0) else ([], 6)
theorem Tiles_eq (h n : Int) (σ) : ev 5 [.int .i64 h, .int .i64 n] σ = some (.tup [.sl .sh (tilesQ h n).1, .int .i64 (tilesQ h n).2], σ) := by
  refine EV_post rfl Tryd.func5 rfl (by simp [Tryd.ntmps5]) (by kernel_rfl) (by kernel_rfl) ?_
  by_cases h1 : h < 1
  · have hQ : tilesQ h n = ([], 6) := by unfold tilesQ; rw [if_neg (by omega)]
    simp (maxSteps := 4000000) [List.getElem?_cons_zero, List.getElem?_cons_succ, h1, hQ, Tryd.results5]
  · by_cases h2 : 8 < h
    · have hQ : tilesQ h n = ([], 6) := by unfold tilesQ; rw [if_neg (by omega)]
      simp (maxSteps := 4000000) [List.getElem?_cons_zero, List.getElem?_cons_succ, h1, h2, hQ, Tryd.results5]
    · by_cases h3 : n < 0
      · have hQ : tilesQ h n = ([], 6) := by unfold tilesQ; rw [if_neg (by omega)]
        simp (maxSteps := 4000000) [List.getElem?_cons_zero, List.getElem?_cons_succ, h1, h2, h3, hQ, Tryd.results5]
      · by_cases h4 : 1048576 < n
        · have hQ : tilesQ h n = ([], 6) := by unfold tilesQ; rw [if_neg (by omega)]
          simp (maxSteps := 4000000) [List.getElem?_cons_zero, List.getElem?_cons_succ, h1, h2, h3, h4, hQ, Tryd.results5]
        · have hQ : tilesQ h n = (tilesN h.toNat n.toNat 21, 0) := by unfold tilesQ; rw [if_pos (by omega)]
          rw [hQ]
          obtain ⟨h, rfl⟩ := Int.eq_ofNat_of_zero_le (show 0 ≤ h by omega)
          obtain ⟨n, rfl⟩ := Int.eq_ofNat_of_zero_le (show 0 ≤ n by omega)
          simp only [Int.toNat_natCast]
          have h1' : ¬ h < 1 := by omega
          have h2' : ¬ 8 < h := by omega
          have h4' : ¬ 1048576 < n := by omega
          have hbt : IntKind.i64.bits = 64 := rfl
          have hn1 : ¬ (h : Int) < 0 := by omega
          have m1 : min h 64 = h := by omega
          have hp8 := pow8 (h := h) (by omega)
          have hTl := tilesN_len h n
          simp (maxSteps := 4000000) [List.getElem?_cons_zero, List.getElem?_cons_succ, h1', h2', h4']
          refine Post_loop (I := fun l : Nat => ⟨[(0, .int .i64 h), (1, .int .i64 n), (6, .sl (.ex 32 4) (tilesN h n l)), (7, .int .i64 l)], [], σ⟩) (Pr := fun l => l ≤ 21) (μ := fun l => 21 - l) (a := 0) (by simp [tilesN]) (by simp) ?_
          intro l hl
          have hhl : h * l ≤ 8 * 21 := Nat.mul_le_mul (by omega) hl
          have w1 : IntKind.i64.wrap ((h : Int) * l) = ((h * l : Nat) : Int) := by
            rw [← Int.natCast_mul]; generalize h * l = G at *; exact wrap64 (by omega)
          have hf : (n : Int).fdiv (2 ^ min (h * l) 64) = ((n / 2 ^ (h * l) : Nat) : Int) := by
            rw [fdiv_pow]
            by_cases q : h * l ≤ 64
            · rw [show min (h * l) 64 = h * l by omega]
            · rw [show min (h * l) 64 = 64 by omega, Nat.div_eq_of_lt (show n < 2 ^ 64 by omega)]
              rw [Nat.div_eq_of_lt]
              have : 2 ^ 64 ≤ 2 ^ (h * l) := Nat.pow_le_pow_right (by omega) (by omega)
              omega
          have hn2 : ¬ ((h * l : Nat) : Int) < 0 := by generalize h * l = G; omega
          have w2 : IntKind.i64.wrap ((l : Int) + 1) = (l : Int) + 1 := wrap64 (by omega)
          have hall := tilesN_all h n l (by omega) hl
          have hcl := cnt_lt h n l
          have hce := cnt_le h n l
          have hwd := fun (k : Nat) (hk : k < cntT h n l) => wide_eq h n l k (by omega) (by omega) (by omega) (by omega)
          have hlz : l = 21 → n / 2 ^ (h * l) = 0 := fun e => by
            refine Nat.div_eq_of_lt ?_
            have : 2 ^ 21 ≤ 2 ^ (h * l) := Nat.pow_le_pow_right (by omega) (by rw [e]; have := Nat.mul_le_mul_right 21 (show 1 ≤ h by omega); omega)
            omega
          have hsx := tilesN_succ h n l
          have hTll := hTl l
          have hln : l * n ≤ 21 * 1048576 := Nat.mul_le_mul hl (by omega)
          obtain ⟨D, hD⟩ : ∃ D, n / 2 ^ (h * l) = D := ⟨_, rfl⟩
          rw [hD] at hf hall hlz
          simp only [hD] at hcl
          obtain ⟨G, hG⟩ : ∃ G, h * l = G := ⟨_, rfl⟩
          rw [hG] at w1 hf hn2
          obtain ⟨c, hc⟩ : ∃ c, cntT h n l = c := ⟨_, rfl⟩
          rw [hc] at hsx hce hwd
          simp only [hc] at hcl
          by_cases hz : 0 < D
          · simp (maxSteps := 4000000) [List.getElem?_cons_zero, List.getElem?_cons_succ, w1, hf, hn2, hbt, hz]
            refine Post_loop (I := fun k : Nat => ⟨[(0, .int .i64 h), (1, .int .i64 n), (6, .sl (.ex 32 4) (tilesN h n l ++ rowTs h n l k)), (7, .int .i64 l), (8, .int .i64 k)], [], σ⟩) (Pr := fun k => k ≤ c) (μ := fun k => c - k) (a := 0) (by simp [rowTs]) (by simp) ?_
            intro k hk
            have hkp : k * 2 ^ h ≤ 1048576 * 256 := Nat.mul_le_mul (by omega) hp8
            have w3 : IntKind.i64.wrap ((k : Int) * 2 ^ h) = ((k * 2 ^ h : Nat) : Int) := by
              rw [show (k : Int) * 2 ^ h = ((k * 2 ^ h : Nat) : Int) by simp]
              generalize k * 2 ^ h = X at *
              exact wrap64 (by omega)
            have hck := hcl k
            have w4 : IntKind.i64.wrap ((k : Int) + 1) = (k : Int) + 1 := wrap64 (by omega)
            obtain ⟨X, hX⟩ : ∃ X, k * 2 ^ h = X := ⟨_, rfl⟩
            rw [hX] at w3 hck
            by_cases hkc : k < c
            · have hXD := hck.1 hkc
              have hw := hwd k hkc
              have hrs := rowTs_succ h n l k
              have hrl := rowTs_len h n l k
              have hmost : (tilesN h n l).length + (rowTs h n l k).length + 1 ≤ most := by rw [hrl]; unfold most; omega
              obtain ⟨wd, hwdd⟩ : ∃ x, wideN h n l k = x := ⟨_, rfl⟩
              rw [hwdd] at hw hrs
              simp only [tileA] at hw hrs
              obtain ⟨A, hA⟩ : ∃ A, tilesN h n l = A := ⟨_, rfl⟩
              obtain ⟨R, hR⟩ : ∃ R, rowTs h n l k = R := ⟨_, rfl⟩
              rw [hA, hR] at hmost ⊢
              rw [hR] at hrs
              simp (maxSteps := 4000000) [List.getElem?_cons_zero, List.getElem?_cons_succ, m1, hbt, hn1, w3, w1, hn2, hf, hXD, hw, hmost, w4]
              exact ⟨k + 1, by omega, by omega, by rw [hrs], by simp⟩
            · have hXD : ¬ X < D := fun q => hkc (hck.2 q)
              obtain rfl : k = c := by omega
              simp (maxSteps := 4000000) [List.getElem?_cons_zero, List.getElem?_cons_succ, m1, hbt, hn1, w3, w1, hn2, hf, hXD, w2]
              have hl20 : l < 21 := by
                rcases Nat.lt_or_ge l 21 with q | q
                · exact q
                · have := hlz (by omega); omega
              exact ⟨l + 1, by omega, by omega, by rw [hsx], by simp⟩
          · have hD0 : D = 0 := by omega
            have hA := hall hD0
            simp (maxSteps := 4000000) [List.getElem?_cons_zero, List.getElem?_cons_succ, w1, hf, hn2, hbt, hz, hA, Tryd.results5]
end Go.Proofs.Tryd.Ai
end
section
/- The tiles of a log, one by one: plain. -/
namespace Go.Proofs.Tryd.Ai
open Go Go.AI Go.Proofs
set_option maxHeartbeats 1000000
set_option linter.unusedVariables false

def wN (h n l k : Nat) : Nat := min (2 ^ h) (n / 2 ^ (h * l) - k * 2 ^ h)
theorem wide_wN {h n l k : Nat} (hk : k * 2 ^ h < n / 2 ^ (h * l)) : wideN h n l k = (wN h n l k : Nat) := by
  unfold wideN wN
  generalize k * 2 ^ h = X at *
  generalize n / 2 ^ (h * l) = D at *
  generalize 2 ^ h = P at *
  split <;> omega
abbrev T3 := Nat × Nat × Nat
def tlist (h n j : Nat) : List T3 := (List.range j).flatMap fun l => (List.range (cntT h n l)).map fun k => (l, k, wN h n l k)
def tAV (h : Nat) (x : T3) : AV := tileA h x.1 x.2.1 x.2.2
theorem tilesN_tlist (h n j : Nat) : tilesN h n j = (tlist h n j).map (tAV h) := by
  unfold tilesN tlist
  rw [List.map_flatMap]
  congr 1
  funext l
  unfold rowTs
  rw [List.map_map]
  refine List.map_congr_left fun k hk => ?_
  have hk' := (cnt_lt h n l k).1 (List.mem_range.1 hk)
  show tileA h l k (wideN h n l k) = tileA h l k (wN h n l k : Nat)
  rw [wide_wN hk']
theorem tlist_mem {h n j : Nat} {x : T3} (hx : x ∈ tlist h n j) : ∃ l k, l < j ∧ k * 2 ^ h < n / 2 ^ (h * l) ∧ x = (l, k, wN h n l k) := by
  unfold tlist at hx
  obtain ⟨l, hl, hx⟩ := List.mem_flatMap.1 hx
  obtain ⟨k, hk, rfl⟩ := List.mem_map.1 hx
  exact ⟨l, k, List.mem_range.1 hl, (cnt_lt h n l k).1 (List.mem_range.1 hk), rfl⟩
theorem tlist_has {h n j l k : Nat} (hl : l < j) (hk : k * 2 ^ h < n / 2 ^ (h * l)) : (l, k, wN h n l k) ∈ tlist h n j := by
  unfold tlist
  exact List.mem_flatMap.2 ⟨l, List.mem_range.2 hl, List.mem_map.2 ⟨k, List.mem_range.2 ((cnt_lt h n l k).2 hk), rfl⟩⟩
def unlike (x y : T3) : Prop := x.1 ≠ y.1 ∨ x.2.1 ≠ y.2.1
theorem tlist_pw (h n j : Nat) : (tlist h n j).Pairwise unlike := by
  unfold tlist
  rw [List.pairwise_flatMap]
  refine ⟨fun l _ => ?_, ?_⟩
  · rw [List.pairwise_map]
    exact List.Pairwise.imp (fun {a b} hab => .inr (by simpa using Nat.ne_of_lt hab)) List.pairwise_lt_range
  · refine List.Pairwise.imp (fun {a b} hab x hx y hy => ?_) (List.pairwise_lt_range (n := j))
    obtain ⟨k, _, rfl⟩ := List.mem_map.1 hx
    obtain ⟨k', _, rfl⟩ := List.mem_map.1 hy
    exact .inl (Nat.ne_of_lt hab)
theorem row_sum (h n l : Nat) : ∀ c, c ≤ cntT h n l → (((List.range c).map fun k => wN h n l k)).sum = min (c * 2 ^ h) (n / 2 ^ (h * l)) := by
  intro c
  induction c with
  | zero => intro _; simp
  | succ c ih =>
    intro hc
    rw [List.range_succ, List.map_append, List.sum_append, ih (by omega)]
    have hk := (cnt_lt h n l c).1 (by omega)
    simp only [List.map_cons, List.map_nil, List.sum_cons, List.sum_nil, Nat.add_zero]
    unfold wN
    rw [Nat.add_mul, Nat.one_mul]
    generalize c * 2 ^ h = X at *
    generalize n / 2 ^ (h * l) = D at *
    generalize 2 ^ h = P at *
    omega
theorem row_all (h n l : Nat) : (((List.range (cntT h n l)).map fun k => wN h n l k)).sum = n / 2 ^ (h * l) := by
  rw [row_sum h n l _ (Nat.le_refl _)]
  have : ¬ cntT h n l * 2 ^ h < n / 2 ^ (h * l) := fun q => Nat.lt_irrefl _ ((cnt_lt h n l (cntT h n l)).2 q)
  omega
def sumD (h n : Nat) : Nat → Nat
  | 0 => 0
  | j + 1 => sumD h n j + n / 2 ^ (h * j)
theorem tlist_sum (h n j : Nat) : ((tlist h n j).map fun x => x.2.2).sum = sumD h n j := by
  induction j with
  | zero => rfl
  | succ j ih =>
    have e : tlist h n (j + 1) = tlist h n j ++ (List.range (cntT h n j)).map fun k => (j, k, wN h n j k) := by
      unfold tlist; rw [List.range_succ, List.flatMap_append]; simp
    rw [e, List.map_append, List.sum_append, ih, List.map_map]
    show sumD h n j + ((List.range (cntT h n j)).map fun k => wN h n j k).sum = _
    rw [row_all]; rfl
/-- by the levels -/
def sumW (h n : Nat) : Nat → Nat
  | 0 => 0
  | L + 1 => sumW h n L + if L % h = 0 then n / 2 ^ L else 0
theorem sumW_block (h n l : Nat) (hh : 1 ≤ h) : ∀ d, 1 ≤ d → d ≤ h → sumW h n (h * l + d) = sumW h n (h * l) + n / 2 ^ (h * l) := by
  intro d
  induction d with
  | zero => intro q; omega
  | succ d ih =>
    intro _ hd
    rw [← Nat.add_assoc, sumW]
    rcases Nat.eq_zero_or_pos d with rfl | q
    · rw [Nat.add_zero, if_pos (Nat.mul_mod_right h l)]
    · rw [ih q (by omega), if_neg]
      · rfl
      · rw [Nat.mul_add_mod, Nat.mod_eq_of_lt (by omega)]; omega
theorem sumW_D (h n : Nat) (hh : 1 ≤ h) : ∀ l, sumW h n (h * l) = sumD h n l := by
  intro l
  induction l with
  | zero => rfl
  | succ l ih => rw [Nat.mul_succ, sumW_block h n l hh h hh (Nat.le_refl _), ih]; rfl
theorem sumW_end (h n L : Nat) (hL : n < 2 ^ L) : ∀ d, sumW h n (L + d) = sumW h n L := by
  intro d
  induction d with
  | zero => rfl
  | succ d ih =>
    rw [← Nat.add_assoc, sumW, ih]
    have : n / 2 ^ (L + d) = 0 := Nat.div_eq_of_lt (Nat.lt_of_lt_of_le hL (Nat.pow_le_pow_right (by omega) (by omega)))
    rw [this]; split <;> rfl
theorem sumW_all (h n L : Nat) (hh : 1 ≤ h) (hL : n < 2 ^ L) (h21 : L ≤ 21) : sumW h n L = sumD h n 21 := by
  have h1 := sumW_D h n hh 21
  have h2 : 21 ≤ h * 21 := Nat.le_mul_of_pos_left _ (by omega)
  have := sumW_end h n L hL (h * 21 - L)
  rw [show L + (h * 21 - L) = h * 21 by omega] at this
  rw [← h1, this]
/-- each may be a tile -/
theorem tlist_tile {h n : Nat} (h1 : 1 ≤ h) (h8 : h ≤ 8) (hn : n ≤ 1048576) {x : T3} (hx : x ∈ tlist h n 21) : tileP 1048576 h x.1 x.2.1 x.2.2 ∧ x.2.2 ≤ 256 := by
  obtain ⟨l, k, hl, hk, rfl⟩ := tlist_mem hx
  have hq : 0 < 2 ^ (h * l) := Nat.two_pow_pos _
  have hD : n / 2 ^ (h * l) * 2 ^ (h * l) ≤ n := Nat.div_mul_le_self _ _
  have hg : h * l ≤ 20 := by
    rcases Nat.lt_or_ge 20 (h * l) with q | q
    · have : 2 ^ 21 ≤ 2 ^ (h * l) := Nat.pow_le_pow_right (by omega) (by omega)
      have : n / 2 ^ (h * l) = 0 := Nat.div_eq_of_lt (by omega)
      omega
    · exact q
  have hll : l ≤ h * l := Nat.le_mul_of_pos_left _ (by omega)
  have hnd : n / 2 ^ (h * l) ≤ n := Nat.div_le_self _ _
  have hkk : k ≤ k * 2 ^ h := Nat.le_mul_of_pos_right _ (Nat.two_pow_pos _)
  have hp8 := pow8 (h := h) h8
  have hle : (k * 2 ^ h + wN h n l k) * 2 ^ (h * l) ≤ 1048576 := by
    have : k * 2 ^ h + wN h n l k ≤ n / 2 ^ (h * l) := by unfold wN; omega
    exact Nat.le_trans (Nat.mul_le_mul_right _ this) (Nat.le_trans hD hn)
  have hm : ((h : Int) * (l : Int)) = ((h * l : Nat) : Int) := by rw [← Int.natCast_mul]
  have w1 : 1 ≤ wN h n l k := by
    have : 0 < 2 ^ h := Nat.two_pow_pos _
    unfold wN; omega
  have w2 : wN h n l k ≤ 2 ^ h := by unfold wN; omega
  refine ⟨?_, by show wN h n l k ≤ 256; omega⟩
  rw [tileP_num]
  simp only
  refine ⟨?_, ?_⟩
  · unfold numP
    rw [hm, Int.toNat_natCast]
    generalize wN h n l k = w at *
    generalize h * l = G at *
    generalize 2 ^ h = P at *
    omega
  · rw [hm]; simp only [Int.toNat_natCast]; exact hle
/-- a longer log has it, as wide -/
theorem tlist_more {h n m : Nat} {x : T3} (hx : x ∈ tlist h n 21) : ∃ y ∈ tlist h (n + m) 21, y.1 = x.1 ∧ y.2.1 = x.2.1 ∧ x.2.2 ≤ y.2.2 := by
  obtain ⟨l, k, hl, hk, rfl⟩ := tlist_mem hx
  have hD : n / 2 ^ (h * l) ≤ (n + m) / 2 ^ (h * l) := Nat.div_le_div_right (by omega)
  refine ⟨_, tlist_has hl (Nat.lt_of_lt_of_le hk hD), rfl, rfl, ?_⟩
  show wN h n l k ≤ wN h (n + m) l k
  unfold wN
  omega
theorem tlist_len (h n j : Nat) : (tlist h n j).length ≤ j * n := by
  have := tilesN_len h n j
  rw [tilesN_tlist, List.length_map] at this; exact this
end Go.Proofs.Tryd.Ai
end
section
/- A tile by its path: the program's side. -/
namespace Go.Proofs.Tryd.Ai
open Go Go.AI Go.Proofs
set_option maxHeartbeats 8000000
set_option maxRecDepth 4000
set_option linter.unusedVariables false

theorem splitK_one (c : UInt8) : ∀ (k : Nat) (s : List UInt8), s.count c = k → Lib.splitK [c] 0 k s = splitB c s := by
  intro k
  induction k with
  | zero => intro s h; rw [splitB_not (List.count_eq_zero.1 h)]; rfl
  | succ k ih =>
    intro s h
    cases hi : ix c s with
    | none => rw [List.count_eq_zero.2 (ix_none.1 hi)] at h; omega
    | some n =>
      obtain ⟨h1, h2, h3, h4⟩ := ix_some hi
      have hidx : Lib.index s [c] = (n : Int) := by
        have := index_pre c [] (s.take n) (s.drop (n + 1)) h3
        simp only [List.append_assoc, List.singleton_append, List.length_take] at this
        rw [← h4] at this; rw [this]; omega
      unfold Lib.splitK
      rw [hidx, splitB_ix hi, if_neg (by simp), Int.toNat_natCast]
      congr 1
      refine ih _ ?_
      have := congrArg (List.count c) h4
      rw [List.count_append, List.count_eq_zero.2 h3, List.count_cons_self, h] at this
      show List.count c (s.drop (n + 1)) = k
      omega
theorem split_one (c : UInt8) (s : List UInt8) : Lib.split s [c] = splitB c s := by
  unfold Lib.split
  rw [Lib.count_one]
  exact splitK_one c _ s rfl
theorem Split_eq (c : UInt8) (s : List UInt8) (hs : s.length ≤ 2 ^ 30) (σ) : ev 20 [.str s, .str [c]] σ = some (.sl (.ex 9 1) ((splitB c s).map .str), σ) := by
  rw [ev_Split]
  simp only [splitT]
  rw [need_of ⟨by omega, by simp⟩, split_one]
theorem Atoi_any (s : List UInt8) (hs : s.length ≤ 2 ^ 30) : ∃ (v : Int) (e : AV), (e = .nili ∨ e = .ifx) ∧ ∀ σ, ev 34 [.str s] σ = some (.tup [.int .i64 v, e], σ) := by
  rcases h : Lib.atoiAll s with v | _ | _
  · exact ⟨v, .nili, .inl rfl, fun σ => by rw [ev_Atoi]; simp only [atoiT]; rw [need_of (by omega), h]⟩
  · exact ⟨0, .ifx, .inr rfl, fun σ => by rw [ev_Atoi]; simp only [atoiT]; rw [need_of (by omega), h]⟩
  · exact ⟨_, .ifx, .inr rfl, fun σ => by rw [ev_Atoi]; simp only [atoiT]; rw [need_of (by omega), h]⟩
theorem Atoi_digs (s : List UInt8) (ha : s.all isD = true) (h0 : s ≠ []) (hl : s.length ≤ 17) (σ) : ev 34 [.str s] σ = some (.tup [.int .i64 (valB s), .nili], σ) := by
  rw [ev_Atoi]
  simp only [atoiT]
  rw [need_of (by omega), digs_atoi s ha h0 hl]
theorem decimal_any (s : List UInt8) (hs : s.length ≤ 2 ^ 30) : ∃ v : Int, ∀ σ, ev 21 [.str s] σ = some (.int .i64 v, σ) := by
  obtain ⟨v, e, he, hA⟩ := Atoi_any s hs
  by_cases h8 : 8 < s.length
  · refine ⟨-1, fun σ => ?_⟩
    refine EV_post rfl Tryd.func21 rfl (by simp [Tryd.ntmps21]) (by kernel_rfl) (by kernel_rfl) ?_
    simp (maxSteps := 4000000) [List.getElem?_cons_zero, List.getElem?_cons_succ, h8, Tryd.results21]
  · rcases he with rfl | rfl
    · refine ⟨v, fun σ => ?_⟩
      refine EV_post rfl Tryd.func21 rfl (by simp [Tryd.ntmps21]) (by kernel_rfl) (by kernel_rfl) ?_
      simp (maxSteps := 4000000) [List.getElem?_cons_zero, List.getElem?_cons_succ, h8, hA, Tryd.results21]
    · refine ⟨-1, fun σ => ?_⟩
      refine EV_post rfl Tryd.func21 rfl (by simp [Tryd.ntmps21]) (by kernel_rfl) (by kernel_rfl) ?_
      simp (maxSteps := 4000000) [List.getElem?_cons_zero, List.getElem?_cons_succ, h8, hA, Tryd.results21]
theorem decimal_digs (s : List UInt8) (ha : s.all isD = true) (h0 : s ≠ []) (hl : s.length ≤ 8) (σ) : ev 21 [.str s] σ = some (.int .i64 (valB s), σ) := by
  have hA := Atoi_digs s ha h0 (by omega)
  have h8 : ¬ 8 < s.length := by omega
  refine EV_post rfl Tryd.func21 rfl (by simp [Tryd.ntmps21]) (by kernel_rfl) (by kernel_rfl) ?_
  simp (maxSteps := 4000000) [List.getElem?_cons_zero, List.getElem?_cons_succ, h8, hA, Tryd.results21]
theorem decimal_dec (n : Nat) (hn : n < 1000) (σ) : ev 21 [.str (Lib.decDigits n)] σ = some (.int .i64 n, σ) := by
  have := decimal_digs (Lib.decDigits n) (dec_all n) (dec_ne n) (by have := dec_len n hn; omega) σ
  rw [dec_val] at this; exact this
abbrev Q4 := Nat × Nat × Nat × Nat
def IsT (s : List UInt8) (p : Q4) : Prop := tileP 1048576 p.1 p.2.1 p.2.2.1 p.2.2.2 ∧ s = pathT p.1 p.2.1 p.2.2.1 p.2.2.2
open Classical in
/-- the tile that is found there -/
noncomputable def parT (s : List UInt8) : Q4 × Int := if h : ∃ p : Q4, IsT s p then (h.choose, 0) else ((0, 0, 0, 0), 15)
theorem parT_yes {s : List UInt8} {p : Q4} (h : IsT s p) : parT s = (p, 0) := by
  have hx : ∃ p : Q4, IsT s p := ⟨p, h⟩
  unfold parT
  rw [dif_pos hx]
  have hc := hx.choose_spec
  have b1 := (tile_bound h.1).2.2.2.1
  have b2 := (tile_bound hc.1).2.2.2.1
  obtain ⟨e1, e2, e3, e4⟩ := path_inj (by omega) (by omega) (h.2.symm.trans hc.2)
  rw [Prod.mk.injEq]
  exact ⟨Prod.ext e1.symm (Prod.ext e2.symm (Prod.ext e3.symm e4.symm)), rfl⟩
theorem parT_no {s : List UInt8} (h : ¬ ∃ p : Q4, IsT s p) : parT s = ((0, 0, 0, 0), 15) := by
  unfold parT
  rw [dif_neg h]
theorem sum_le (l : List (List UInt8)) (M : Nat) (h : ∀ x ∈ l, x.length ≤ M) : (l.map List.length).sum ≤ l.length * M := by
  induction l with
  | nil => simp
  | cons x r ih =>
    have h1 := h x (by simp)
    have h2 := ih fun y hy => h y (by simp [hy])
    rw [List.map_cons, List.sum_cons, List.length_cons, Nat.succ_mul]; omega
theorem Join_eq (l : List (List UInt8)) (h : l.length ≤ 2 ^ 16) (hx : ∀ x ∈ l, x.length ≤ 2 ^ 15) (σ) : ev 23 [.sl .sh (l.map .str), .str []] σ = some (.str (Lib.join l []), σ) := by
  have h1 := sum_le l (2 ^ 15) hx
  have h2 : l.length * 2 ^ 15 ≤ 2 ^ 16 * 2 ^ 15 := Nat.mul_le_mul_right _ h
  rw [ev_Join]
  simp only [joinT, strsOf_map, bnd_some]
  rw [need_of ⟨by omega, by rw [join_flat]; omega⟩]
theorem ReplaceX_eq (s : List UInt8) (h : s.length ≤ 4000000000) (σ) : ev 22 [.str s, .str [120], .str []] σ = some (.str (Lib.replaceAll s [120] []), σ) := by
  rw [ev_ReplaceAll]
  simp only [replaceAllT]
  rw [need_of ⟨h, by simp, by simp⟩]
def tileQ (p : Q4) : AV := tileA p.1 p.2.1 p.2.2.1 p.2.2.2
theorem Cut_path (s m : List UInt8) (hs : s.length ≤ 2 ^ 30) (σ) : ev 19 [.str s, .str m] σ = some (.tup [.str (Lib.cut s m).1, .str (Lib.cut s m).2.1, .bool (Lib.cut s m).2.2], σ) := by
  rw [ev_Cut]
  simp only [cutT]
  rw [need_of (by omega)]
theorem cut_len (s m : List UInt8) : (Lib.cut s m).1.length ≤ s.length ∧ (Lib.cut s m).2.1.length ≤ s.length := by
  unfold Lib.cut
  split
  · exact ⟨by simp only [List.length_take]; omega, by simp only [List.length_drop]; omega⟩
  · exact ⟨Nat.le_refl _, by simp⟩
theorem ParsePath_eq (s : List UInt8) (hs : s.length ≤ 2 ^ 15) (σ) : ev 8 [.str s] σ = some (.tup [tileQ (parT s).1, .int .i64 (parT s).2], σ) := by
  have hC := Cut_path s [46, 112, 47] (by omega)
  by_cases hh : ∃ p : Q4, IsT s p
  · obtain ⟨⟨h, l, k, w⟩, ht, hp⟩ := hh
    simp only at ht hp
    have hR := parT_yes (⟨ht, hp⟩ : IsT s (h, l, k, w))
    rw [hR]
    obtain ⟨b1, b2, b3, b4, b5, b6, b7⟩ := tile_bound ht
    have hPa := Path_eq h l k w
    have hQ : pathQ h l k w = (s, 0) := by unfold pathQ; rw [if_pos ht, hp]; rfl
    rw [hQ] at hPa
    have hSp := Split_eq 47 (bodyT h l k) (by
      have := pathT_len (H := h) (L := l) (N := k) (W := w) b2 b3 (by omega) b6
      unfold pathT at this
      rw [List.length_append] at this; omega)
    rw [body_split (by omega)] at hSp
    rw [hp, path_cut (by omega), ← hp] at hC
    obtain ⟨Y, e1, e2, e3, e4, e5⟩ := number_dig (n := k) (by omega)
    have hD1 := decimal_dec h (by omega)
    have hD2 := decimal_dec l (by omega)
    have hD4 := decimal_dec w (by omega)
    have hD3 := decimal_digs Y e2 e3 (by omega)
    rw [e5] at hD3
    have nl := nP_len k
    have nl2 : (nP k).length ≤ 2 := by unfold nP; split <;> simp
    have hx15 : ∀ x ∈ nP k, x.length ≤ 2 ^ 15 := by
      intro x hx
      have := splitB_le (show x ∈ splitB 47 (nT k) by rw [nP_split (by omega)]; exact hx)
      have := nT_len (n := k) (by omega)
      omega
    have hJ := Join_eq (nP k) (by omega) hx15
    have hJl : (Lib.join (nP k) []).length ≤ 4000000000 := by
      have := sum_le (nP k) (2 ^ 15) hx15
      have h2 : (nP k).length * 2 ^ 15 ≤ 2 * 2 ^ 15 := Nat.mul_le_mul_right _ nl2
      rw [join_flat]; omega
    have hRe := ReplaceX_eq _ hJl
    rw [e1] at hRe
    obtain ⟨J, hJJ⟩ : ∃ J, Lib.join (nP k) [] = J := ⟨_, rfl⟩
    rw [hJJ] at hJ hRe
    have s1 := shl_one h b2
    have m1 : min h 64 = h := by omega
    rw [m1, Int.one_mul] at s1
    have hbt : IntKind.i64.bits = 64 := rfl
    have hn1 : ¬ (h : Int) < 0 := by omega
    have c1 : 1 ≤ h := b1
    have len4 : ¬ ((nP k).length : Int) + 1 + 1 + 1 < 4 := by omega
    obtain ⟨A, hA⟩ : ∃ A, Lib.decDigits h = A := ⟨_, rfl⟩
    obtain ⟨B, hB⟩ : ∃ B, Lib.decDigits l = B := ⟨_, rfl⟩
    obtain ⟨D, hD⟩ : ∃ D, Lib.decDigits w = D := ⟨_, rfl⟩
    obtain ⟨T, hT⟩ : ∃ T, bodyT h l k = T := ⟨_, rfl⟩
    have hTs : w = 2 ^ h → T = s := fun e => by rw [← hT, hp]; unfold pathT; rw [if_pos e, List.append_nil]
    obtain ⟨O, hO⟩ : ∃ O, nP k = O := ⟨_, rfl⟩
    obtain ⟨pw, hpw⟩ : ∃ pw, 2 ^ h = pw := ⟨_, rfl⟩
    rw [hpw] at s1 hTs hC b7
    rw [hA] at hD1 hSp
    rw [hB] at hD2 hSp
    rw [hD] at hD4 hC
    rw [hT] at hSp hC
    rw [hO] at hSp hJ nl len4
    simp only [tileQ]
    simp only [tileA] at hPa ⊢
    clear hx15 nl2 hO hA hB hD hT hJJ e1 e2 e3 e4 e5 hR hQ ht hp
    by_cases hw : w = pw
    · have hTs' := hTs hw
      subst hTs' hw
      rw [if_pos rfl] at hC
      refine EV_post rfl Tryd.func8 rfl (by simp [Tryd.ntmps8]) (by kernel_rfl) (by kernel_rfl) ?_
      simp (maxSteps := 4000000) [List.getElem?_cons_zero, List.getElem?_cons_succ, hC, hSp, len4, hD1, hD2, hJ, hRe, hD3, c1, b2, m1, hbt, hn1, s1, hPa, Tryd.results8]
    · rw [if_neg hw] at hC
      refine EV_post rfl Tryd.func8 rfl (by simp [Tryd.ntmps8]) (by kernel_rfl) (by kernel_rfl) ?_
      simp (maxSteps := 4000000) [List.getElem?_cons_zero, List.getElem?_cons_succ, hC, hSp, len4, hD1, hD2, hJ, hRe, hD3, hD4, c1, b2, m1, hbt, hn1, s1, hPa, Tryd.results8]
  · have hR := parT_no hh
    rw [hR]
    have hcl := cut_len s [46, 112, 47]
    obtain ⟨⟨a, b, c⟩, hcc⟩ : ∃ p, Lib.cut s [46, 112, 47] = p := ⟨_, rfl⟩
    rw [hcc] at hC hcl
    simp only at hC hcl
    have hSp := Split_eq 47 a (by omega)
    have hm1 := fun x (hx : x ∈ splitB 47 a) => splitB_le hx
    have hm2 := splitB_many 47 a
    obtain ⟨L, hL⟩ : ∃ L, splitB 47 a = L := ⟨_, rfl⟩
    rw [hL] at hSp hm1 hm2
    simp only [tileQ]
    simp only [tileA]
    by_cases h4 : L.length < 4
    · refine EV_post rfl Tryd.func8 rfl (by simp [Tryd.ntmps8]) (by kernel_rfl) (by kernel_rfl) ?_
      simp (maxSteps := 4000000) [List.getElem?_cons_zero, List.getElem?_cons_succ, hC, hSp, h4, Tryd.results8]
    · obtain ⟨x1, hx1⟩ : ∃ x, L[1]? = some x := ⟨_, List.getElem?_eq_getElem (by omega)⟩
      obtain ⟨x2, hx2⟩ : ∃ x, L[2]? = some x := ⟨_, List.getElem?_eq_getElem (by omega)⟩
      obtain ⟨v1, hv1⟩ := decimal_any x1 (by have := hm1 x1 (List.mem_of_getElem? hx1); omega)
      obtain ⟨v2, hv2⟩ := decimal_any x2 (by have := hm1 x2 (List.mem_of_getElem? hx2); omega)
      obtain ⟨v4, hv4⟩ := decimal_any b (by omega)
      have hx15 : ∀ x ∈ L.drop 3, x.length ≤ 2 ^ 15 := fun x hx => by have := hm1 x (List.mem_of_mem_drop hx); omega
      have hJ := Join_eq (L.drop 3) (by simp; omega) hx15
      have hJl : (Lib.join (L.drop 3) []).length ≤ 4000000000 := by
        have := sum_le (L.drop 3) (2 ^ 15) hx15
        have h2 : (L.drop 3).length * 2 ^ 15 ≤ (2 ^ 15 + 1) * 2 ^ 15 := Nat.mul_le_mul_right _ (by simp; omega)
        rw [join_flat]; omega
      have hRe := ReplaceX_eq _ hJl
      have hrl : (Lib.replaceAll (Lib.join (L.drop 3) []) [120] []).length ≤ 2 ^ 30 + 2 ^ 15 := by
        rw [replace_x]
        refine Nat.le_trans (List.length_filter_le ..) ?_
        have := sum_le (L.drop 3) (2 ^ 15) hx15
        have h2 : (L.drop 3).length * 2 ^ 15 ≤ (2 ^ 15 + 1) * 2 ^ 15 := Nat.mul_le_mul_right _ (by simp; omega)
        rw [join_flat]; omega
      obtain ⟨J, hJJ⟩ : ∃ J, Lib.join (L.drop 3) [] = J := ⟨_, rfl⟩
      rw [hJJ] at hJ hRe hrl
      obtain ⟨Y, hY⟩ : ∃ Y, Lib.replaceAll J [120] [] = Y := ⟨_, rfl⟩
      rw [hY] at hRe hrl
      obtain ⟨v3, hv3⟩ : ∃ v : Int, ∀ σ, ev 21 [.str Y] σ = some (.int .i64 v, σ) := by
        by_cases hq : Y.length ≤ 2 ^ 30
        · exact decimal_any Y hq
        · refine ⟨-1, fun σ => ?_⟩
          have h8 : 8 < Y.length := by omega
          refine EV_post rfl Tryd.func21 rfl (by simp [Tryd.ntmps21]) (by kernel_rfl) (by kernel_rfl) ?_
          simp (maxSteps := 4000000) [List.getElem?_cons_zero, List.getElem?_cons_succ, h8, Tryd.results21]
      have hdr : List.drop 3 (L.map AV.str) = (L.drop 3).map .str := by rw [List.map_drop]
      have h3l : 3 ≤ L.length := by omega
      obtain ⟨O, hO⟩ : ∃ O, L.drop 3 = O := ⟨_, rfl⟩
      rw [hO] at hdr hJ
      have hall : allCells 1 (L.map AV.str) := fun y hy => by obtain ⟨z, _, rfl⟩ := List.mem_map.1 hy; exact ⟨rfl, fun c hc => by simp [AV.cells] at hc; subst hc; rfl⟩
      have wk : ∃ W : Int, W = (if c = true then v4 else if 1 ≤ v1 ∧ v1 ≤ 8 then ((2 ^ v1.toNat : Nat) : Int) else 0) := ⟨_, rfl⟩
      obtain ⟨W, hW⟩ := wk
      have hPa := Path_eq v1 v2 v3 W
      have hnq : ∃ t e, pathQ v1 v2 v3 W = (t, e) ∧ (e = 15 ∨ (e = 0 ∧ (t == s) = false)) := by
        by_cases ht : tileP 1048576 v1 v2 v3 W
        · refine ⟨_, 0, by unfold pathQ; rw [if_pos ht], .inr ⟨rfl, ?_⟩⟩
          rw [beq_eq_false_iff_ne]
          intro e
          obtain ⟨a1, a2, a3, a4, a5, a6, a7, a8, a9⟩ := ((tileP_num 1048576 v1 v2 v3 W).1 ht).1
          refine hh ⟨(v1.toNat, v2.toNat, v3.toNat, W.toNat), ?_, e.symm⟩
          simp only
          rw [Int.toNat_of_nonneg (by omega), Int.toNat_of_nonneg (by omega), Int.toNat_of_nonneg (by omega), Int.toNat_of_nonneg (by omega)]
          exact ht
        · exact ⟨_, 15, by unfold pathQ; rw [if_neg ht], .inl rfl⟩
      obtain ⟨t, e, hq, he⟩ := hnq
      rw [hq] at hPa
      simp only [tileA] at hPa
      clear hm1 hm2 hJl hrl hJJ hY hx15 hL hcl hcc hh hO hq
      refine EV_post rfl Tryd.func8 rfl (by simp [Tryd.ntmps8]) (by kernel_rfl) (by kernel_rfl) ?_
      by_cases q1 : 1 ≤ v1
      · by_cases q2 : v1 ≤ 8
        · obtain ⟨h, rfl⟩ := Int.eq_ofNat_of_zero_le (show 0 ≤ v1 by omega)
          have s1 := shl_one h (by omega)
          have m1 : min h 64 = h := by omega
          rw [m1, Int.one_mul] at s1
          have hbt : IntKind.i64.bits = 64 := rfl
          have hn1 : ¬ (h : Int) < 0 := by omega
          have q1' : 1 ≤ h := by omega
          have q2' : h ≤ 8 := by omega
          cases c with
          | true =>
            rw [if_pos rfl] at hW
            subst hW
            rcases he with rfl | ⟨rfl, he⟩
            · simp (maxSteps := 4000000) [List.getElem?_cons_zero, List.getElem?_cons_succ, -getElem?_pos, hC, hSp, h4, hx1, hx2, hv1, hv2, h3l, hall, hdr, hJ, hRe, hv3, hv4, q1', q2', m1, hbt, hn1, s1, hPa, Tryd.results8]
            · simp (maxSteps := 4000000) [List.getElem?_cons_zero, List.getElem?_cons_succ, -getElem?_pos, hC, hSp, h4, hx1, hx2, hv1, hv2, h3l, hall, hdr, hJ, hRe, hv3, hv4, q1', q2', m1, hbt, hn1, s1, hPa, he, Tryd.results8]
          | false =>
            rw [if_neg (by simp), if_pos ⟨q1, q2⟩, Int.toNat_natCast] at hW
            subst hW
            obtain ⟨pw, hpw⟩ : ∃ pw, 2 ^ h = pw := ⟨_, rfl⟩
            rw [hpw] at s1 hPa
            rcases he with rfl | ⟨rfl, he⟩
            · simp (maxSteps := 4000000) [List.getElem?_cons_zero, List.getElem?_cons_succ, -getElem?_pos, hC, hSp, h4, hx1, hx2, hv1, hv2, h3l, hall, hdr, hJ, hRe, hv3, hv4, q1', q2', m1, hbt, hn1, s1, hPa, Tryd.results8]
            · simp (maxSteps := 4000000) [List.getElem?_cons_zero, List.getElem?_cons_succ, -getElem?_pos, hC, hSp, h4, hx1, hx2, hv1, hv2, h3l, hall, hdr, hJ, hRe, hv3, hv4, q1', q2', m1, hbt, hn1, s1, hPa, he, Tryd.results8]
        · cases c with
          | true =>
            rw [if_pos rfl] at hW
            subst hW
            rcases he with rfl | ⟨rfl, he⟩
            · simp (maxSteps := 4000000) [List.getElem?_cons_zero, List.getElem?_cons_succ, -getElem?_pos, hC, hSp, h4, hx1, hx2, hv1, hv2, h3l, hall, hdr, hJ, hRe, hv3, hv4, q1, q2, hPa, Tryd.results8]
            · simp (maxSteps := 4000000) [List.getElem?_cons_zero, List.getElem?_cons_succ, -getElem?_pos, hC, hSp, h4, hx1, hx2, hv1, hv2, h3l, hall, hdr, hJ, hRe, hv3, hv4, q1, q2, hPa, he, Tryd.results8]
          | false =>
            rw [if_neg (by simp), if_neg (fun h => q2 h.2)] at hW
            subst hW
            rcases he with rfl | ⟨rfl, he⟩
            · simp (maxSteps := 4000000) [List.getElem?_cons_zero, List.getElem?_cons_succ, -getElem?_pos, hC, hSp, h4, hx1, hx2, hv1, hv2, h3l, hall, hdr, hJ, hRe, hv3, hv4, q1, q2, hPa, Tryd.results8]
            · simp (maxSteps := 4000000) [List.getElem?_cons_zero, List.getElem?_cons_succ, -getElem?_pos, hC, hSp, h4, hx1, hx2, hv1, hv2, h3l, hall, hdr, hJ, hRe, hv3, hv4, q1, q2, hPa, he, Tryd.results8]
      · cases c with
        | true =>
          rw [if_pos rfl] at hW
          subst hW
          rcases he with rfl | ⟨rfl, he⟩
          · simp (maxSteps := 4000000) [List.getElem?_cons_zero, List.getElem?_cons_succ, -getElem?_pos, hC, hSp, h4, hx1, hx2, hv1, hv2, h3l, hall, hdr, hJ, hRe, hv3, hv4, q1, hPa, Tryd.results8]
          · simp (maxSteps := 4000000) [List.getElem?_cons_zero, List.getElem?_cons_succ, -getElem?_pos, hC, hSp, h4, hx1, hx2, hv1, hv2, h3l, hall, hdr, hJ, hRe, hv3, hv4, q1, hPa, he, Tryd.results8]
        | false =>
          rw [if_neg (by simp), if_neg (fun h => q1 h.1)] at hW
          subst hW
          rcases he with rfl | ⟨rfl, he⟩
          · simp (maxSteps := 4000000) [List.getElem?_cons_zero, List.getElem?_cons_succ, -getElem?_pos, hC, hSp, h4, hx1, hx2, hv1, hv2, h3l, hall, hdr, hJ, hRe, hv3, hv4, q1, hPa, Tryd.results8]
          · simp (maxSteps := 4000000) [List.getElem?_cons_zero, List.getElem?_cons_succ, -getElem?_pos, hC, hSp, h4, hx1, hx2, hv1, hv2, h3l, hall, hdr, hJ, hRe, hv3, hv4, q1, hPa, he, Tryd.results8]
end Go.Proofs.Tryd.Ai
end
section
/- ark.Hex. -/
namespace Go.Proofs.Tryd.Ai
open Go Go.AI Go.Proofs
set_option maxHeartbeats 1000000
set_option linter.unusedVariables false

def hexDigit (n : Nat) : UInt8 := [48, 49, 50, 51, 52, 53, 54, 55, 56, 57, 97, 98, 99, 100, 101, 102].getD n 0
def hexB (b : UInt8) : List UInt8 := [hexDigit (b.toNat / 16), hexDigit (b.toNat % 16)]
def hexL (l : List UInt8) : List UInt8 := l.flatMap hexB
theorem hexL_len (l : List UInt8) : (hexL l).length = 2 * l.length := by
  induction l with
  | nil => rfl
  | cons a r ih => simp only [hexL, List.flatMap_cons, List.length_append, List.length_cons] at ih ⊢; rw [ih]; simp [hexB]; omega
theorem hexL_succ (l : List UInt8) (i : Nat) (h : i < l.length) : hexL (l.take (i + 1)) = hexL (l.take i) ++ hexB l[i] := by
  rw [List.take_succ_eq_append_getElem h]; simp only [hexL, List.flatMap_append, List.flatMap_cons, List.flatMap_nil, List.append_nil]

theorem Hex_eq (o : Own) (l : List UInt8) (hl : l.length ≤ 2 ^ 30) (σ) : ev 10 [.sl o (l.map .u8)] σ = some (.str (hexL l), σ) := by
  have hw := fun (q : Option (List UInt8)) (c : UInt8) (h : (txt q).length + 1 ≤ most) => WriteByte_eq σ [] q h c
  have hs := fun (q : Option (List UInt8)) => String_eq σ [] q
  refine EV_post rfl Tryd.func10 rfl (by simp [Tryd.ntmps10]) (by kernel_rfl) (by kernel_rfl) ?_
  simp (maxSteps := 4000000) (disch := omega) [dT, dF, wrap64]
  refine Post_loop (I := fun p : Nat × Option (List UInt8) => ⟨[(3, .gp σ.length 0 (some (SB, 2))), (6, .sl o (l.map .u8)), (7, .int .i64 l.length), (8, .int .i64 p.1)], [], σ ++ [bc σ.length p.2]⟩)
    (Pr := fun p => p.1 ≤ l.length ∧ txt p.2 = hexL (l.take p.1)) (μ := fun p => l.length - p.1) (a := (0, none)) (by simp [bc, SB]) (by simp [hexL]) ?_
  rintro ⟨i, q⟩ ⟨hi, hq⟩
  simp only at hi hq ⊢
  have hql : (txt q).length ≤ 2 ^ 31 := by rw [hq, hexL_len]; simp; omega
  by_cases hc : i < l.length
  · have q1 : (i : Int) < l.length := by omega
    obtain ⟨x, hx⟩ : ∃ x, l[i] = x := ⟨_, rfl⟩
    have hx2 : l[i]? = some x := by rw [← hx]; exact List.getElem?_eq_getElem hc
    have hb : (x.toNat) < 256 := x.toNat_lt
    have e0 : IntKind.i64.wrap ((i : Int) + 1) = (i : Int) + 1 := wrap64 (by omega)
    have hd : ∀ n : Nat, n < 16 → ([48, 49, 50, 51, 52, 53, 54, 55, 56, 57, 97, 98, 99, 100, 101, 102] : List UInt8)[n]? = some (hexDigit n) := by decide
    obtain ⟨m1, hm1⟩ : ∃ m, x.toNat / 16 = m := ⟨_, rfl⟩
    obtain ⟨m2, hm2⟩ : ∃ m, x.toNat % 16 = m := ⟨_, rfl⟩
    have e1 : IntKind.u8.wrap ((x.toNat : Int) / 16) = (m1 : Int) := by rw [wrapU8 (by omega)]; omega
    have e2 : (x.toNat : Int).tmod 16 = (m2 : Int) := by rw [Int.tmod_eq_emod_of_nonneg (by omega)]; omega
    have d1 := hd m1 (by omega)
    have d2 := hd m2 (by omega)
    have w1 := hw q (hexDigit m1) (by unfold most; omega)
    have w2 := hw (some (txt q ++ [hexDigit m1])) (hexDigit m2) (by simp; unfold most; omega)
    simp only [AV.u8] at w1 w2
    have hfin := hexL_succ l i hc
    rw [hx] at hfin
    clear hd hw
    simp (maxSteps := 4000000) [-getElem?_pos, List.getElem?_cons_zero, q1, hc, hx2, e0, e1, e2, d1, d2, w1, w2]
    refine ⟨i + 1, some (txt (some (txt q ++ [hexDigit m1])) ++ [hexDigit m2]), ⟨by omega, ?_⟩, by omega, by omega, by simp⟩
    rw [hfin, ← hq]
    simp [hexB, hm1, hm2]
  · have hi' : i = l.length := by omega
    subst hi'
    have c1 : ¬ (l.length : Int) < l.length := by omega
    simp only [List.take_length] at hq
    simp (maxSteps := 4000000) [c1, hs, hq, Tryd.results10]
end Go.Proofs.Tryd.Ai
end
section
/- SHA-256: words turned; a block's numbers. -/
namespace Go.Proofs.Tryd.Ai
open Go Go.AI Go.Proofs
set_option maxHeartbeats 400000

def wor (a b : Int) : Int := bits .or .u32 a b
def wxor (a b : Int) : Int := bits .xor .u32 a b
def wand (a b : Int) : Int := bits .and .u32 a b
def wnot (a : Int) : Int := bits .xor .u32 4294967295 a
def wadd (a b : Int) : Int := IntKind.u32.wrap (a + b)
/-- a word turned to the right -/
def rotr (x : Int) (n : Nat) : Int := wor (IntKind.u32.wrap (x * 2 ^ (32 - n))) (x.fdiv (2 ^ n))
def byteI (b : List UInt8) (i : Nat) : Int := ((b.getD i 0).toNat : Int)
def wordAt (b : List UInt8) (i : Nat) : Int :=
  wor (wor (wor (IntKind.u32.wrap (byteI b (4 * i) * 16777216)) (IntKind.u32.wrap (byteI b (4 * i + 1) * 65536))) (IntKind.u32.wrap (byteI b (4 * i + 2) * 256))) (byteI b (4 * i + 3))
def sig0 (x : Int) : Int := wxor (wxor (rotr x 7) (rotr x 18)) (x.fdiv 8)
def sig1 (x : Int) : Int := wxor (wxor (rotr x 17) (rotr x 19)) (x.fdiv 1024)
def nextW (w : List Int) (n : Nat) : Int := wadd (wadd (wadd (w.getD (n - 16) 0) (sig0 (w.getD (n - 15) 0))) (w.getD (n - 7) 0)) (sig1 (w.getD (n - 2) 0))
/-- the first numbers of a block -/
def sched (b : List UInt8) : Nat → List Int
  | 0 => []
  | n + 1 => sched b n ++ [if n < 16 then wordAt b n else nextW (sched b n) n]
theorem sched_len (b : List UInt8) (n : Nat) : (sched b n).length = n := by
  induction n with
  | zero => rfl
  | succ n ih => simp [sched, ih]

theorem or_fold (a b : Int) : bits .or .u32 a b = wor a b := rfl
theorem xor_fold (a b : Int) : bits .xor .u32 a b = wxor a b := rfl
theorem and_fold (a b : Int) : bits .and .u32 a b = wand a b := rfl
theorem add_fold (a b : Int) : IntKind.u32.wrap (a + b) = wadd a b := rfl

theorem rotl_eq (x k : Int) (n : Nat) (hk : bits .and .u64 (IntKind.u64.wrap k) 31 = ((32 - n : Nat) : Int)) (hn : n ≤ 32) (σ) : ev 78 [.int .u32 x, .int .i64 k] σ = some (.int .u32 (rotr x n), σ) := by
  refine EV_post rfl Tryd.func78 rfl (by simp [Tryd.ntmps78]) (by kernel_rfl) (by kernel_rfl) ?_
  have h1 : ¬ ((32 - n : Nat) : Int) < 0 := by omega
  have h2 : IntKind.u64.wrap (32 - ((32 - n : Nat) : Int)) = (n : Int) := by rw [wrapU64 (by omega)]; omega
  have h3 : ¬ (n : Int) < 0 := by omega
  have h4 : min (32 - n) 32 = 32 - n := by omega
  have h5 : min n 32 = n := by omega
  clear hn
  simp [hk, h1, h2, h3, h4, h5, IntKind.bits, Tryd.results78, rotr, wor]

theorem right_eq (x : Int) (n : Nat) (hn : n = 2 ∨ n = 6 ∨ n = 7 ∨ n = 11 ∨ n = 13 ∨ n = 17 ∨ n = 18 ∨ n = 19 ∨ n = 22 ∨ n = 25) (σ) : ev 57 [.int .u32 x, .int .i64 n] σ = some (.int .u32 (rotr x n), σ) := by
  refine EV_post rfl Tryd.func57 rfl (by simp [Tryd.ntmps57]) (by kernel_rfl) (by kernel_rfl) ?_
  have h := rotl_eq x (IntKind.i64.wrap (0 - (n : Int))) n (by rcases hn with rfl | rfl | rfl | rfl | rfl | rfl | rfl | rfl | rfl | rfl <;> decide +kernel) (by omega) σ
  clear hn
  simp at h
  simp [h, Tryd.results57]
end Go.Proofs.Tryd.Ai
end
section
/- SHA-256: a block's numbers, walked. -/
namespace Go.Proofs.Tryd.Ai
open Go Go.AI Go.Proofs
set_option maxHeartbeats 1000000

/-- the array while it is filled -/
def cellsW (b : List UInt8) (n : Nat) : List AV := (sched b n).map (.int .u32) ++ List.replicate (64 - n) (.int .u32 0)
theorem cellsW_len (b : List UInt8) (n : Nat) (h : n ≤ 64) : (cellsW b n).length = 64 := by simp [cellsW, sched_len]; omega
theorem cellsW_get (b : List UInt8) (n j : Nat) (h : j < n) : (cellsW b n)[j]? = some (.int .u32 ((sched b n).getD j 0)) := by
  have hj : j < (sched b n).length := by rw [sched_len]; exact h
  unfold cellsW
  rw [List.getElem?_append_left (by simpa using hj), List.getElem?_map, List.getElem?_eq_getElem hj]
  simp [List.getD, hj]
theorem cellsW_set (b : List UInt8) (n : Nat) (v : Int) (h : n < 64) (hv : v = if n < 16 then wordAt b n else nextW (sched b n) n) : (cellsW b n).take n ++ .int .u32 v :: (cellsW b n).drop (n + 1) = cellsW b (n + 1) := by
  have e : 64 - n = (64 - (n + 1)) + 1 := by omega
  unfold cellsW
  rw [e, List.replicate_succ]
  rw [List.take_append_of_le_length (by simp [sched_len]), List.take_of_length_le (by simp [sched_len])]
  rw [List.drop_append, List.drop_eq_nil_of_le (by simp [sched_len])]
  simp only [List.length_map, sched_len, sched, hv]
  rw [show n + 1 - n = 1 by omega]
  simp

theorem schedule_eq (b : List UInt8) (hb : b.length = 64) (o : Own) (σ) : ev 56 [.sl o (b.map .u8)] σ = some (.agg ((sched b 64).map (.int .u32)), σ) := by
  refine EV_post rfl Tryd.func56 rfl (by simp [Tryd.ntmps56]) (by kernel_rfl) (by kernel_rfl) ?_
  simp
  refine Post_loop (I := fun n : Nat => ⟨[(0, .sl o (b.map .u8)), (2, .lp 2 0), (3, .lp 3 0), (10, .int .i64 n)], [(2, List.replicate 64 (.int .u32 0)), (3, cellsW b n)], σ⟩) (Pr := fun n => n ≤ 64) (μ := fun n => 64 - n) (a := 0) (by simp [cellsW, sched]) (by omega) ?_
  intro n hn
  have hlen := cellsW_len b n hn
  by_cases hc : n < 64
  · have w1 : IntKind.i64.wrap ((n : Int) + 1) = (n : Int) + 1 := wrap64 (by omega)
    have h63 : n ≤ 63 := by omega
    by_cases h16 : n < 16
    · have q1 : (n : Int) < 64 := by omega
      have q2 : (n : Int) < 16 := by omega
      obtain ⟨m, hm⟩ : ∃ m, 4 * n = m := ⟨_, rfl⟩
      have e4 : IntKind.i64.wrap (4 * (n : Int)) = (m : Int) := by rw [wrap64 (by omega)]; omega
      obtain ⟨x0, hx0⟩ : ∃ x, b[m]? = some x := ⟨_, List.getElem?_eq_getElem (by omega)⟩
      obtain ⟨x1, hx1⟩ : ∃ x, b[m + 1]? = some x := ⟨_, List.getElem?_eq_getElem (by omega)⟩
      obtain ⟨x2, hx2⟩ : ∃ x, b[m + 2]? = some x := ⟨_, List.getElem?_eq_getElem (by omega)⟩
      obtain ⟨x3, hx3⟩ : ∃ x, b[m + 3]? = some x := ⟨_, List.getElem?_eq_getElem (by omega)⟩
      have e5 : m ≤ 64 := by omega
      have hset := cellsW_set b n (wordAt b n) hc (by rw [if_pos h16])
      have hw : wordAt b n = wor (wor (wor (IntKind.u32.wrap ((x0.toNat : Int) * 16777216)) (IntKind.u32.wrap ((x1.toNat : Int) * 65536))) (IntKind.u32.wrap ((x2.toNat : Int) * 256))) (x3.toNat : Int) := by
        simp [wordAt, byteI, List.getD, hm, hx0, hx1, hx2, hx3]
      rw [hw] at hset
      clear hw hm
      simp (maxSteps := 4000000) [q1, q2, e4, e5, hb, hx0, hx1, hx2, hx3, wrapU32_byte, hlen, hc, h63, w1, or_fold, IntKind.bits, hset]
      exact ⟨n + 1, by omega, by omega, by simp, rfl⟩
    · have q1 : (n : Int) < 64 := by omega
      have q2 : ¬ (n : Int) < 16 := by omega
      obtain ⟨m1, h1⟩ : ∃ m, n - 15 = m := ⟨_, rfl⟩
      obtain ⟨m2, h2⟩ : ∃ m, n - 2 = m := ⟨_, rfl⟩
      obtain ⟨m3, h3⟩ : ∃ m, n - 16 = m := ⟨_, rfl⟩
      obtain ⟨m4, h4⟩ : ∃ m, n - 7 = m := ⟨_, rfl⟩
      have e1 : IntKind.i64.wrap ((n : Int) - 15) = (m1 : Int) := by rw [wrap64 (by omega)]; omega
      have e2 : IntKind.i64.wrap ((n : Int) - 2) = (m2 : Int) := by rw [wrap64 (by omega)]; omega
      have e3 : IntKind.i64.wrap ((n : Int) - 16) = (m3 : Int) := by rw [wrap64 (by omega)]; omega
      have e4 : IntKind.i64.wrap ((n : Int) - 7) = (m4 : Int) := by rw [wrap64 (by omega)]; omega
      have g1 := cellsW_get b n m1 (by omega)
      have g2 := cellsW_get b n m2 (by omega)
      have g3 := cellsW_get b n m3 (by omega)
      have g4 := cellsW_get b n m4 (by omega)
      have l1 : m1 < 64 := by omega
      have l2 : m2 < 64 := by omega
      have l3 : m3 < 64 := by omega
      have l4 : m4 < 64 := by omega
      have r1 : ∀ x, ev 57 [.int .u32 x, .int .i64 7] σ = some (.int .u32 (rotr x 7), σ) := fun x => right_eq x 7 (by omega) σ
      have r2 : ∀ x, ev 57 [.int .u32 x, .int .i64 18] σ = some (.int .u32 (rotr x 18), σ) := fun x => right_eq x 18 (by omega) σ
      have r3 : ∀ x, ev 57 [.int .u32 x, .int .i64 17] σ = some (.int .u32 (rotr x 17), σ) := fun x => right_eq x 17 (by omega) σ
      have r4 : ∀ x, ev 57 [.int .u32 x, .int .i64 19] σ = some (.int .u32 (rotr x 19), σ) := fun x => right_eq x 19 (by omega) σ
      have hset := cellsW_set b n (nextW (sched b n) n) hc (by rw [if_neg h16])
      unfold nextW sig0 sig1 at hset
      rw [h1, h2, h3, h4] at hset
      generalize (sched b n).getD m1 0 = y1 at *
      generalize (sched b n).getD m2 0 = y2 at *
      generalize (sched b n).getD m3 0 = y3 at *
      generalize (sched b n).getD m4 0 = y4 at *
      clear h1 h2 h3 h4
      simp (maxSteps := 4000000) [-getElem?_pos, q1, q2, e1, e2, e3, e4, g1, g2, g3, g4, l1, l2, l3, l4, r1, r2, r3, r4, hlen, hc, h63, w1, xor_fold, add_fold, IntKind.bits, hset]
      exact ⟨n + 1, by omega, by omega, by simp, rfl⟩
  · have hn64 : n = 64 := by omega
    subst hn64
    have e : cellsW b 64 = (sched b 64).map (.int .u32) := by simp [cellsW]
    rw [e] at hlen ⊢
    have hd : ((sched b 64).map (AV.int .u32)).take 64 = (sched b 64).map (.int .u32) := List.take_of_length_le (by simp [sched_len])
    simp (maxSteps := 4000000) [hlen, Tryd.results56, hd, sched_len]
end Go.Proofs.Tryd.Ai
end
