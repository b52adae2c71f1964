/- Part 5 of a proof: a Go function is evaluated on abstract values (texts Bld .. M13); no conditions beyond those of each theorem. -/
import Derived.Test.YtoofpdaplnjmdaaGreatDoorAi4
import Derived.Test.YtoofpdaplnjmdaaGreatDoorProg
import Derived.Lib.Strings
import Derived.Lib.Slices
import Derived.Lib.Walk
import Derived.Lib.Builder
import Derived.Lib.UnsafeStr
import Derived.Lib.MakeNoZero
import Derived.WalkKit
import Derived.Laws.Externs
import Derived.RegionTactic
import Derived.BigRegion
import Derived.Laws.CopyRow
import Derived.Lib.Bytealg
import Derived.Shelf.Strconv.Itoa3
import Derived.Lib.AppendIntMem
import Derived.Shelf.Strings.Search2
import Derived.Shelf.Strconv.AtoiAll
import Derived.Shelf.Strings.LastIndexAll
import Derived.Shelf.Strings.Cut
import Derived.Shelf.Strings.Split
import Derived.Shelf.Small.Wraps
import Derived.Shelf.Strings.Prefix
import Derived.Shelf.Strings.Trim
import Derived.Shelf.Strings.Search3
import Derived.Shelf.Strings.OnBuilder
import Derived.Shelf.Strings.FuncGrows
import Derived.Shelf.Vars
import Derived.Lib.SmallJoins
import Derived.Lib.SplitLaws
import Derived.Stop.LaidErr
import Derived.KernelRfl
set_option linter.all false
set_option linter.unusedVariables false
set_option linter.unusedSimpArgs false
set_option linter.unnecessarySimpa false
section
/- strings.Builder's methods that look at addresses or capacities: each leaves just this world behind. -/
namespace Go.Proofs.Tryz.Ai
open Go Go.AI Go.RowKit Go.Proofs

set_option maxHeartbeats 1000000 in
set_option maxRecDepth 100000 in
theorem copyCheck_used (b : Nat) (w : World) (h0 : w.cell? ⟨b, 0, none⟩ = some (.pointer (some ⟨b, 0, none⟩))) :
    Calls Tryz.prog 96 #[.pointer (some ⟨b, 0, none⟩)] w fun e w' => e = .returned (.tuple #[]) ∧ w' = w := by
  obtain ⟨j, hj, _⟩ : ∃ j, Tryz.prog.info? 101 = some j ∧ j.size = 2 := Option.map_eq_some_iff.1 (by kernel_rfl)
  go_enter Tryz.func96, Tryz.ntmps96
  go_wp2
  rw [Lib.run_neq_ptr_same w _ (te := 101) (by kernel_rfl) hj]
  go_wp2
  go_end0
  exact ⟨rfl, rfl⟩

set_option maxHeartbeats 1000000 in
set_option maxRecDepth 100000 in
theorem copyCheck_fresh (b : Nat) (w : World) (h0 : w.cell? ⟨b, 0, none⟩ = some (.pointer none)) (hsh : w.shape? b = some (101, 2)) (hfz : w.frozen? ⟨b, 0, none⟩ = false) :
    Calls Tryz.prog 96 #[.pointer (some ⟨b, 0, none⟩)] w fun e w' => e = .returned (.tuple #[]) ∧ w' = w.setCell ⟨b, 0, none⟩ (.pointer (some ⟨b, 0, none⟩)) := by
  obtain ⟨j, hj, hjs⟩ : ∃ j, Tryz.prog.info? 101 = some j ∧ j.size = 2 := Option.map_eq_some_iff.1 (by kernel_rfl)
  go_enter Tryz.func96, Tryz.ntmps96
  go_wp2
  rw [Lib.run_to_unsafe (t := 101) w ⟨b, 0, none⟩ (by kernel_rfl) (by kernel_rfl) hj (by rw [hjs]; decide) hsh (Nat.zero_lt_succ 1)]
  simp only [Result.andThen]
  rw [Oper.upon_value]
  go_wp2
  rw [run_callFunc_extern Tryz.func140 (by kernel_rfl) (by kernel_rfl) (by kernel_rfl) (e := Extern.AbiNoEscape.same) (by kernel_rfl)]
  rw [Lib.run_noEscape]
  simp only [Result.andThen]
  rw [Oper.upon_value]
  go_wp2
  rw [Lib.run_from_unsafe (u := 101) w ⟨b, 0, none⟩ (by kernel_rfl) (by kernel_rfl) hj hsh (by kernel_rfl)]
  simp only [Result.andThen]
  rw [Oper.upon_value]
  go_wp2
  go_end0
  exact ⟨rfl, rfl⟩

def SB : TypeId := 101
def U8 : TypeId := 5

set_option maxHeartbeats 2000000 in
set_option maxRecDepth 1000000 in
theorem string_some (b g cap n : Nat) (p : Value) (cur : Array Value) (l : List UInt8) (w : World) (h0 : l ≠ []) (hn : l.length = n) (hbk : Blk w b #[p, .slice (some ⟨g, 0, none⟩) n cap] SB)
    (hg : Blk w g cur U8) (hnc : n ≤ cap) (hcm : cap ≤ maxLen) (hcs : cur.size = cap) (hx : ∀ (j : Nat) (x : UInt8), l[j]? = some x → cur[j]? = some (.int .u8 x.toNat)) :
    Calls Tryz.prog 98 #[.pointer (some ⟨b, 0, none⟩)] w fun e w' => e = .returned (.string ⟨l.toArray⟩) ∧ w' = w.drew.freeze ⟨g, 0, none⟩ n := by
  obtain ⟨fbk, hbk, okbk⟩ := hbk
  obtain ⟨fg, hg, okg⟩ := hg
  subst hn
  have hl0 : l.length ≠ 0 := by simpa using h0
  have c1 : w.drew.cell? ⟨b, 1, none⟩ = some (.slice (some ⟨g, 0, none⟩) l.length cap) := by
    have : w.drew.heap[b]? = some (.cells #[p, .slice (some ⟨g, 0, none⟩) l.length cap] SB fbk) := hbk
    rw [Lib.cell_of_heap this]; rfl
  have hSD : (Builtin.unsafeSliceData_ #[99] 176 #[.slice (some ⟨g, 0, none⟩) l.length cap]).run Tryz.prog w.drew = .ok (.pointer (some ⟨g, 0, none⟩)) w.drew :=
    Lib.run_unsafeSliceData_row _ _ _ _ _ _ (by omega)
  have hUS : (Builtin.unsafeString_ #[176, 3] 9 #[.pointer (some ⟨g, 0, none⟩), .int .i64 l.length]).run Tryz.prog w.drew = .ok (.string ⟨l.toArray⟩) (w.drew.freeze ⟨g, 0, none⟩ l.length) := by
    refine Lib.run_unsafeString_row w.drew 176 3 9 5 (by kernel_rfl) (by kernel_rfl) g cur.size (by have hg' : w.drew.heap[g]? = some (.cells cur U8 fg) := hg; simp [World.shape?, hg', U8]) l h0 (by omega) (by unfold maxLen at hcm; omega) ?_
    intro j x hj
    have := hx j x hj
    have hg' : w.drew.heap[g]? = some (.cells cur U8 fg) := hg
    rw [show (⟨g, 0, none⟩ : Addr).add j = ⟨g, j, none⟩ from by unfold Addr.add; split <;> simp_all, Lib.cell_of_heap hg']; exact this
  go_enter Tryz.func98, Tryz.ntmps98
  go_wp2
  go_region
  all_goals (go_wp2; go_ret; exact ⟨rfl, rfl⟩)

set_option maxHeartbeats 2000000 in
set_option maxRecDepth 1000000 in
theorem string_nil (b : Nat) (p : Value) (w : World) (hbk : Blk w b #[p, .slice none 0 0] SB) :
    Calls Tryz.prog 98 #[.pointer (some ⟨b, 0, none⟩)] w fun e w' => e = .returned (.string ⟨#[]⟩) ∧ w' = w.drew := by
  obtain ⟨fbk, hbk, okbk⟩ := hbk
  have hUS : ∀ (W : World) (q : Option Addr), (Builtin.unsafeString_ #[176, 3] 9 #[.pointer q, .int .i64 0]).run Tryz.prog W = .ok (.string .empty) W := fun W q => Lib.run_unsafeString_none W _ _ _ q
  have c1 : w.drew.cell? ⟨b, 1, none⟩ = some (.slice none 0 0) := by
    have : w.drew.heap[b]? = some (.cells #[p, .slice none 0 0] SB fbk) := hbk
    rw [Lib.cell_of_heap this]; rfl
  have hSD : ∀ W : World, (Builtin.unsafeSliceData_ #[99] 176 #[.slice none 0 0]).run Tryz.prog W = .ok (.pointer none) W := fun W => rfl
  go_enter Tryz.func98, Tryz.ntmps98
  go_wp2
  go_region
  all_goals (go_wp2; go_ret; exact ⟨rfl, rfl⟩)

set_option maxHeartbeats 2000000 in
set_option maxRecDepth 1000000 in
theorem string_room (b g cap : Nat) (p : Value) (w : World) (hc0 : cap ≠ 0) (hbk : Blk w b #[p, .slice (some ⟨g, 0, none⟩) 0 cap] SB) :
    Calls Tryz.prog 98 #[.pointer (some ⟨b, 0, none⟩)] w fun e w' => e = .returned (.string ⟨#[]⟩) ∧ w' = w.drew := by
  obtain ⟨fbk, hbk, okbk⟩ := hbk
  have hUS : ∀ (W : World) (q : Option Addr), (Builtin.unsafeString_ #[176, 3] 9 #[.pointer q, .int .i64 0]).run Tryz.prog W = .ok (.string .empty) W := fun W q => Lib.run_unsafeString_none W _ _ _ q
  have c1 : w.drew.cell? ⟨b, 1, none⟩ = some (.slice (some ⟨g, 0, none⟩) 0 cap) := by
    have : w.drew.heap[b]? = some (.cells #[p, .slice (some ⟨g, 0, none⟩) 0 cap] SB fbk) := hbk
    rw [Lib.cell_of_heap this]; rfl
  have hSD : (Builtin.unsafeSliceData_ #[99] 176 #[.slice (some ⟨g, 0, none⟩) 0 cap]).run Tryz.prog w.drew = .ok (.pointer (some ⟨g, 0, none⟩)) w.drew :=
    Lib.run_unsafeSliceData_row _ _ _ _ _ _ hc0
  clear hc0
  go_enter Tryz.func98, Tryz.ntmps98
  go_wp2
  go_region
  all_goals (go_wp2; go_ret; exact ⟨rfl, rfl⟩)

set_option maxHeartbeats 2000000 in
set_option maxRecDepth 1000000 in
theorem string_noroom (b g : Nat) (p : Value) (cur : Array Value) (w : World) (hbk : Blk w b #[p, .slice (some ⟨g, 0, none⟩) 0 0] SB) (hg : Blk w g cur U8) :
    Calls Tryz.prog 98 #[.pointer (some ⟨b, 0, none⟩)] w fun e w' => e = .returned (.string ⟨#[]⟩) ∧ w' = (w.alloc (.view ⟨g, 0, none⟩ U8)).drew := by
  obtain ⟨fbk, hbk, okbk⟩ := hbk
  obtain ⟨fg, hg, okg⟩ := hg
  have hUS : ∀ (W : World) (q : Option Addr), (Builtin.unsafeString_ #[176, 3] 9 #[.pointer q, .int .i64 0]).run Tryz.prog W = .ok (.string .empty) W := fun W q => Lib.run_unsafeString_none W _ _ _ q
  have hlt : b < w.heap.size := by
    rcases Nat.lt_or_ge b w.heap.size with h' | h'
    · exact h'
    · simp [Array.getElem?_eq_none h'] at hbk
  have c1 : w.drew.cell? ⟨b, 1, none⟩ = some (.slice (some ⟨g, 0, none⟩) 0 0) := by
    have : w.drew.heap[b]? = some (.cells #[p, .slice (some ⟨g, 0, none⟩) 0 0] SB fbk) := hbk
    rw [Lib.cell_of_heap this]; rfl
  have hSD : (Builtin.unsafeSliceData_ #[99] 176 #[.slice (some ⟨g, 0, none⟩) 0 0]).run Tryz.prog w.drew = .ok (.pointer (some ⟨w.drew.heap.size, 0, none⟩)) (w.drew.alloc (.view ⟨g, 0, none⟩ 5)) :=
    Lib.run_unsafeSliceData_zero w.drew _ _ 5 (by kernel_rfl) ⟨g, 0, none⟩ 0 (5, cur.size) (by have hg' : w.drew.heap[g]? = some (.cells cur U8 fg) := hg; simp [World.shape?, hg', U8])
  have c2 : (w.drew.alloc (.view ⟨g, 0, none⟩ 5)).cell? ⟨b, 1, none⟩ = some (.slice (some ⟨g, 0, none⟩) 0 0) := by
    have : (w.drew.alloc (.view ⟨g, 0, none⟩ 5)).heap[b]? = _ := (Lib.alloc_old w.drew _ b hlt).trans hbk
    rw [Lib.cell_of_heap this]; rfl
  have c3 : (w.alloc (.view ⟨g, 0, none⟩ 5)).drew.cell? ⟨b, 1, none⟩ = some (.slice (some ⟨g, 0, none⟩) 0 0) := c2
  have c0 : w.cell? ⟨b, 1, none⟩ = some (.slice (some ⟨g, 0, none⟩) 0 0) := c1
  clear hlt
  go_enter Tryz.func98, Tryz.ntmps98
  go_wp2
  go_region
  all_goals (go_wp2; go_ret; exact ⟨rfl, rfl⟩)

set_option maxHeartbeats 2000000 in
set_option maxRecDepth 1000000 in
theorem grow_fresh (b n : Nat) (w : World) (hbk : Blk w b #[.pointer (some ⟨b, 0, none⟩), .slice none 0 0] SB) (hn : n ≤ 281474976710656) :
    Calls Tryz.prog 144 #[.pointer (some ⟨b, 0, none⟩), .int .i64 n] w fun e w' => e = .returned (.tuple #[]) ∧ ∃ cs : Array Value, (n ≤ maxLen → cs.size ≤ maxLen) ∧ w' = ((w.alloc (.cells cs U8)).setCell ⟨b, 1, none⟩ (.slice (some ⟨w.heap.size, 0, none⟩) 0 cs.size)).drew.drew.drew := by
  obtain ⟨fbk, hbk, okbk⟩ := hbk
  obtain ⟨cs, hrun, hle, hmax⟩ := Lib.run_makeNoZero (P := Tryz.prog) w.drew #[3] 99 5 (by kernel_rfl) n hn
  have hw : IntKind.i64.wrap (IntKind.i64.wrap 0 + (n : Int)) = n := by
    rw [IntKind.wrap_i64, IntKind.wrap_i64]
    omega
  have hcall : (callFunc 180 #[.int .i64 (IntKind.i64.wrap (IntKind.i64.wrap 0 + (n : Int)))]).run Tryz.prog w.drew = .ok (.value (.slice (some ⟨w.drew.heap.size, 0, none⟩) n cs.size)) (w.drew.drew.drew.alloc (.cells cs U8)) := by
    rw [hw, run_callFunc_extern Tryz.func180 (by kernel_rfl) (by kernel_rfl) (by kernel_rfl) (e := Extern.BytealgMakeNoZero.makeNoZero #[3] #[99]) (by kernel_rfl), hrun]
    rfl
  have c1 : w.drew.cell? ⟨b, 1, none⟩ = some (.slice none 0 0) := by
    have : w.drew.heap[b]? = _ := hbk
    rw [Lib.cell_of_heap this]; rfl
  have hlt : b < w.heap.size := by
    rcases Nat.lt_or_ge b w.heap.size with h' | h'
    · exact h'
    · simp [Array.getElem?_eq_none h'] at hbk
  have c2 : (w.alloc (.cells cs U8)).cell? ⟨b, 1, none⟩ = some (.slice none 0 0) := by
    have : (w.alloc (.cells cs U8)).heap[b]? = _ := (Lib.alloc_old w _ b hlt).trans hbk
    rw [Lib.cell_of_heap this]; rfl
  have f2 : (w.alloc (.cells cs U8)).frozen? ⟨b, 1, none⟩ = false := (show Blk _ b _ SB from ⟨fbk, (Lib.alloc_old w _ b hlt).trans hbk, okbk⟩).frozen (by simp)
  have hcopy : ∀ W : World, (Builtin.copy_ #[99, 99] 3 #[.slice (some ⟨w.heap.size, 0, none⟩) 0 cs.size, .slice none 0 0]).run Tryz.prog W = .ok (goInt 0) W :=
    fun W => run_copy_none W 99 99 3 5 _ _ 0 cs.size 0 0 (by kernel_rfl) (by kernel_rfl) rfl
  have hfin : ∃ cs' : Array Value, (n ≤ maxLen → cs'.size ≤ maxLen) ∧ ((w.alloc (.cells cs U8)).setCell ⟨b, 1, none⟩ (.slice (some ⟨w.heap.size, 0, none⟩) 0 cs.size)).drew.drew.drew = ((w.alloc (.cells cs' U8)).setCell ⟨b, 1, none⟩ (.slice (some ⟨w.heap.size, 0, none⟩) 0 cs'.size)).drew.drew.drew := ⟨cs, hmax, rfl⟩
  clear hw hmax hlt
  unfold U8 at *
  go_enter Tryz.func144, Tryz.ntmps144
  go_wp2
  go_region
  all_goals (go_wp2; go_end0; exact ⟨rfl, hfin⟩)
set_option maxHeartbeats 2000000 in
set_option maxRecDepth 1000000 in
theorem Grow_fresh (b n : Nat) (w : World) (hbk : Blk w b #[.pointer none, .slice none 0 0] SB) (hn : n ≤ 281474976710656) :
    Calls Tryz.prog 107 #[.pointer (some ⟨b, 0, none⟩), .int .i64 n] w fun e w' => e = .returned (.tuple #[]) ∧
      ((∃ cs : Array Value, (n ≤ maxLen → cs.size ≤ maxLen) ∧ w' = (((w.setCell ⟨b, 0, none⟩ (.pointer (some ⟨b, 0, none⟩))).alloc (.cells cs U8)).setCell ⟨b, 1, none⟩ (.slice (some ⟨w.heap.size, 0, none⟩) 0 cs.size)).drew.drew.drew.drew) ∨
       w' = (w.setCell ⟨b, 0, none⟩ (.pointer (some ⟨b, 0, none⟩))).drew) := by
  obtain ⟨fbk, hbk, okbk⟩ := hbk
  have hbk1 : (w.setCell ⟨b, 0, none⟩ (.pointer (some ⟨b, 0, none⟩))).heap[b]? = some (.cells #[.pointer (some ⟨b, 0, none⟩), .slice none 0 0] SB fbk) := by
    simp [World.setCell, Array.getElem?_modify, hbk]
  have c1 : (w.setCell ⟨b, 0, none⟩ (.pointer (some ⟨b, 0, none⟩))).cell? ⟨b, 1, none⟩ = some (.slice none 0 0) := by rw [Lib.cell_of_heap hbk1]; rfl
  have c1' : (w.setCell ⟨b, 0, none⟩ (.pointer (some ⟨b, 0, none⟩))).drew.cell? ⟨b, 1, none⟩ = some (.slice none 0 0) := c1
  go_enter Tryz.func107, Tryz.ntmps107
  go_wp2_with (go_at_call 96; refine (copyCheck_fresh b w (by rw [Lib.cell_of_heap hbk]; rfl) (by simp [World.shape?, hbk, SB]) ((show Blk w b _ SB from ⟨fbk, hbk, okbk⟩).frozen (by simp))).mono ?_; rintro e w' ⟨rfl, rfl⟩)
  go_region
  all_goals go_wp2_with (go_at_call 144; refine (grow_fresh b n (w.setCell ⟨b, 0, none⟩ (.pointer (some ⟨b, 0, none⟩))).drew ⟨fbk, hbk1, okbk⟩ hn).mono ?_; rintro e w' ⟨rfl, cs, h1, rfl⟩)
  all_goals first
    | (go_end0; exact ⟨rfl, .inl ⟨cs, h1, by first | rfl | simp [World.setCell_drew]⟩⟩)
    | (go_end0; exact ⟨rfl, .inr rfl⟩)
end Go.Proofs.Tryz.Ai
end
section
/- The table's entries for strings.Builder. -/
namespace Go.Proofs.Tryz.Ai
open Go Go.AI Go.RowKit Go.Proofs
set_option linter.unusedVariables false

def copyCheckT : List AV → List (List AV) → Option (AV × List (List AV))
  | [.gp b 0 (some (t, 2))], s => if t = SB then (match s[b]? with
      | some [.nilp, u] => some (.tup [], s.set b [.gp b 0 (some (SB, 2)), u])
      | some [.gp b' 0 _, u] => if b' = b then some (.tup [], s) else none
      | _ => none) else none
  | _, _ => none

theorem one_arg {B : Nat} {T0 : Nat → Prop} {μ0 : Gh} {w0 : World} {N : Nat} {μ : Gh} {lx : Nat → Option Nat} {w : World} {vs : Array Value} {x : AV} {s : List (List AV)} (hsz : vs.size = 1) : ∃ v, vs = #[v] ∧ vs.getD 0 undef = v := by
  obtain ⟨l⟩ := vs
  match l, hsz with
  | [v], _ => exact ⟨v, rfl, rfl⟩

theorem copyCheck_ok {B : Nat} {W0 : World} {xs : List AV} {s : List (List AV)} {r : AV} {s' : List (List AV)} (e : copyCheckT xs s = some (r, s')) : ACalls Tryz.prog B W0 96 xs s r s' := by
  unfold copyCheckT at e
  split at e
  · rename_i b tt
    split at e
    · rename_i ht
      subst ht
      intro T μ w vs hsz hW hs
      split at e
      · rename_i u hb
        simp only [Option.some.injEq, Prod.mk.injEq] at e
        obtain ⟨rfl, rfl⟩ := e
        obtain ⟨blk, cur, ty, h1, h2, h3, h4, h5, h6, h7⟩ := hs.gp_open (i := 0) (b := b) (off := 0) (sh := some (SB, 2)) (by simp [params, look]) hb (by simp)
        have h8 := h7 _ rfl
        simp only [Prod.mk.injEq] at h8
        obtain ⟨rfl, h8⟩ := h8
        obtain ⟨v, rfl, hv⟩ := one_arg (B := B) (T0 := T) (μ0 := μ) (w0 := w) (N := 1) (μ := μ) (lx := fun _ => none) (w := w) (x := .nilp) (s := []) hsz
        have hv0 : v = .pointer (some ⟨blk, 0, none⟩) := h1
        subst hv0
        have hc0 : cur[0]? = some (.pointer none) := by
          have := (h6 0 .nilp rfl).2.1
          have hq : cur[0]? = some (cur.getD 0 undef) := by simp [Array.getD_eq_getD_getElem?, h8]
          rw [hq]; congr 1
          generalize cur.getD 0 undef = z at this
          cases this; rfl
        refine (copyCheck_fresh blk w (by rw [h3.cell]; exact hc0) (by simp [h3.shape, h8, SB]) (h3.frozen (by omega))).mono ?_
        rintro e w' ⟨rfl, rfl⟩
        have h9 := hs.setGlobCell (j := 0) (c := .gp b 0 (some (SB, 2))) (v := .pointer (some ⟨blk, 0, none⟩)) hb h2 h3 (by simp) (.mk' ⟨.gp _ _ _ _ h2 (fun q e => by injection e with e; subst e; simp [h3.shape, h8]), trivial⟩ fun j => by cases j <;> rfl) rfl
        exact ⟨_, _, rfl, h9.unit⟩
      · rename_i b' sh u hb
        split at e
        · rename_i hbb
          obtain rfl : b = b' := hbb.symm
          simp only [Option.some.injEq, Prod.mk.injEq] at e
          obtain ⟨rfl, rfl⟩ := e
          obtain ⟨blk, cur, ty, h1, h2, h3, h4, h5, h6, h7⟩ := hs.gp_open (i := 0) (b := b) (off := 0) (sh := some (SB, 2)) (by simp [params, look]) hb (by simp)
          have h8 := h7 _ rfl
          simp only [Prod.mk.injEq] at h8
          obtain ⟨rfl, h8⟩ := h8
          obtain ⟨v, rfl, hv⟩ := one_arg (B := B) (T0 := T) (μ0 := μ) (w0 := w) (N := 1) (μ := μ) (lx := fun _ => none) (w := w) (x := .nilp) (s := []) hsz
          have hv0 : v = .pointer (some ⟨blk, 0, none⟩) := h1
          subst hv0
          have hc0 : cur[0]? = some (.pointer (some ⟨blk, 0, none⟩)) := by
            have := (h6 0 _ rfl).2.1
            have hq : cur[0]? = some (cur.getD 0 undef) := by simp [Array.getD_eq_getD_getElem?, h8]
            rw [hq]; congr 1
            generalize cur.getD 0 undef = z at this
            cases this with
            | gp _ _ blk' _ hq' _ => rw [h2] at hq'; injection hq' with hq'; rw [hq']
          refine (copyCheck_used blk w (by rw [h3.cell]; exact hc0)).mono ?_
          rintro e w' ⟨rfl, rfl⟩
          exact ⟨_, _, rfl, hs.unit⟩
        · cases e
      · cases e
    · cases e
  · cases e

noncomputable def stringT : List AV → List (List AV) → Option (AV × List (List AV))
  | [.gp b 0 (some (t, 2))], s => if t = SB then (match s[b]? with
      | some [u, .sl (.ex ty 1) xs] => if ty = U8 then bnd (bytesOf xs) fun l => need (xs = l.map .u8) (some (.str l, s.set b [u, .sl .sh xs])) else none
      | some [u, .sl .nil []] => some (.str [], s)
      | _ => none) else none
  | _, _ => none

theorem string_ok {B : Nat} {W0 : World} {xs : List AV} {s : List (List AV)} {r : AV} {s' : List (List AV)} (e : stringT xs s = some (r, s')) : ACalls Tryz.prog B W0 98 xs s r s' := by
  unfold stringT at e
  split at e
  · rename_i b tt
    split at e
    · rename_i ht
      subst ht
      intro T μ w vs hsz hW hs
      split at e
      · rename_i u ty2 xs hb
        split at e
        rotate_left
        · cases e
        rename_i hty
        subst hty
        obtain ⟨l, hl, e⟩ := bnd_eq e
        obtain ⟨hxs, e⟩ := need_eq e
        simp only [Option.some.injEq, Prod.mk.injEq] at e
        obtain ⟨rfl, rfl⟩ := e
        obtain ⟨blk, cur, ty, h1, h2, h3, h4, h5, h6, h7⟩ := hs.gp_open (i := 0) (b := b) (off := 0) (sh := some (SB, 2)) (by simp [params, look]) hb (by simp)
        have h8 := h7 _ rfl
        simp only [Prod.mk.injEq] at h8
        obtain ⟨rfl, h8⟩ := h8
        obtain ⟨v, rfl, hv⟩ := one_arg (B := B) (T0 := T) (μ0 := μ) (w0 := w) (N := 1) (μ := μ) (lx := fun _ => none) (w := w) (x := .nilp) (s := []) hsz
        have hv0 : v = .pointer (some ⟨blk, 0, none⟩) := h1
        subst hv0
        obtain ⟨p, q, rfl⟩ : ∃ p q, cur = #[p, q] := by
          obtain ⟨l⟩ := cur
          match l, h8 with
          | [p, q], _ => exact ⟨p, q, rfl⟩
        have k1 := h6 1 _ rfl
        have kr : Rep B μ w q (.sl (.ex U8 1) xs) := k1.2.1
        have kt : Tk1 B μ w q (.sl (.ex U8 1) xs) := k1.2.2
        have hq1 : hs = hs := rfl
        have hqc := hs.quietCell hb (j := 1) rfl
        have hown : own ⟨#[.pointer (some ⟨blk, 0, none⟩)], []⟩ (fun _ => none) μ w ⟨params 0 [.gp b 0 (some (SB, 2))], [], s⟩ (.gc b 1) = exBlk q (.sl (.ex U8 1) xs) := by
          simp [own, ownB, hb, h2, h3.cell]
        rcases kt with hn | ⟨g, cap, cur, rfl, hB, hg, c1, c2, c3, c4, c5, c6⟩
        · subst hn
          have hx : xs = [] := by cases kr <;> rfl
          subst hx
          injection hl with hl; subst hl
          refine (string_nil blk p w h3).mono ?_
          rintro e w' ⟨rfl, rfl⟩
          exact ⟨_, _, rfl, hqc.drew.1.text []⟩
        · have hfree : ∀ l, own ⟨#[.pointer (some ⟨blk, 0, none⟩)], []⟩ (fun _ => none) μ w ⟨params 0 [.gp b 0 (some (SB, 2))], [], s.set b [u, .sl .sh xs]⟩ l ≠ some g := by
            intro l e
            have hle : Le ⟨params 0 [.gp b 0 (some (SB, 2))], [], s.set b [u, .sl .sh xs]⟩ ⟨params 0 [.gp b 0 (some (SB, 2))], [], s⟩ := by
              have hb' : b < s.length := (List.getElem?_eq_some_iff.1 hb).1
              refine ⟨fun i v e => ⟨v, e, .inl rfl⟩, fun d cs e => ⟨cs, e, CLe.refl _⟩, fun b' cs' e => ?_, by simp, id⟩
              simp only [List.getElem?_set] at e
              by_cases q : b = b'
              · subst q
                simp [hb'] at e; subst e
                refine ⟨_, hb, rfl, fun j' c' e => ?_⟩
                match j', e with
                | 0, e => exact ⟨_, rfl, .inl (by simpa using e.symm)⟩
                | 1, e => exact ⟨_, rfl, .inr (by simpa [dem1] using e.symm)⟩
              · rw [if_neg q] at e; exact ⟨cs', e, CLe.refl _⟩
            have e1 := own_le hle e
            have := hs.inj l (.gc b 1) g e1 (by rw [hown]; rfl)
            subst this
            have hb' : b < s.length := (List.getElem?_eq_some_iff.1 hb).1
            simp [own, ownB, List.getElem?_set, hb', h2, h3.cell, exBlk] at e
          have hr := hs.rng (.gc b 1) g (by rw [hown]; rfl)
          have hqc' : Sim B T μ w 1 μ (fun _ => none) ⟨#[.pointer (some ⟨blk, 0, none⟩)], []⟩ w ⟨params 0 [.gp b 0 (some (SB, 2))], [], s.set b [u, .sl .sh xs]⟩ := hqc
          by_cases hx : xs = []
          · subst hx
            injection hl with hl; subst hl
            by_cases hc0 : cap = 0
            · subst hc0
              refine (string_noroom blk g p cur w h3 hg).mono ?_
              rintro e w' ⟨rfl, rfl⟩
              exact ⟨_, _, rfl, (hqc'.alloc _).drew.1.text []⟩
            · refine (string_room blk g cap p w hc0 h3).mono ?_
              rintro e w' ⟨rfl, rfl⟩
              exact ⟨_, _, rfl, hqc'.drew.1.text []⟩
          · have hl0 : l ≠ [] := fun e => by subst e; exact hx hxs
            have hll : l.length = xs.length := by rw [hxs]; simp
            obtain ⟨ad, cap', he, _, _, _, k4⟩ := sl_inv kr
            obtain ⟨b', off', sz', f, had, hsz', hall', hcell, hrep⟩ := k4 hx
            injection he with he1 he2 he3
            rw [had] at he1
            injection he1 with he1
            injection he1 with e1 e2
            subst e1; subst e2
            have hsz1 : sz' = 1 := by
              obtain ⟨x0, hx0⟩ := List.exists_mem_of_ne_nil xs hx
              rw [← (hall' x0 hx0).1]; exact (c5 x0 hx0).1
            subst hsz1
            refine (string_some blk g cap xs.length p cur l w hl0 hll h3 hg c1 c2 (by omega) (fun j x hj => ?_)).mono ?_
            · have hjl : j < l.length := (List.getElem?_eq_some_iff.1 hj).1
              have hxj : xs[j]? = some (.u8 x) := by rw [hxs]; simp [hj]
              have h10 := (hcell j (by omega)).1
              have h11 := hrep j 0 (.u8 x) (by rw [hxj]; rfl)
              rw [Nat.zero_add, cell_box hg] at h10
              rw [h10]; congr 1
              simp only [Nat.mul_one, Nat.add_zero] at h11
              generalize f j = z at h11
              cases h11; rfl
            · rintro e w' ⟨rfl, rfl⟩
              have h12 := hqc'.drew
              exact ⟨_, _, rfl, (h12.1.freeze (g := g) (n := xs.length) (fun l e => hfree l (by rw [← h12.2]; exact e)) hB hr.2.2).text l⟩
      · rename_i u hb
        simp only [Option.some.injEq, Prod.mk.injEq] at e
        obtain ⟨rfl, rfl⟩ := e
        obtain ⟨blk, cur, ty, h1, h2, h3, h4, h5, h6, h7⟩ := hs.gp_open (i := 0) (b := b) (off := 0) (sh := some (SB, 2)) (by simp [params, look]) hb (by simp)
        have h8 := h7 _ rfl
        simp only [Prod.mk.injEq] at h8
        obtain ⟨rfl, h8⟩ := h8
        obtain ⟨v, rfl, hv⟩ := one_arg (B := B) (T0 := T) (μ0 := μ) (w0 := w) (N := 1) (μ := μ) (lx := fun _ => none) (w := w) (x := .nilp) (s := []) hsz
        have hv0 : v = .pointer (some ⟨blk, 0, none⟩) := h1
        subst hv0
        obtain ⟨p, q, rfl⟩ : ∃ p q, cur = #[p, q] := by
          obtain ⟨l⟩ := cur
          match l, h8 with
          | [p, q], _ => exact ⟨p, q, rfl⟩
        have kr : Rep B μ w q (.sl .nil []) := (h6 1 _ rfl).2.1
        obtain ⟨rfl, _⟩ := kr.nil_val
        refine (string_nil blk p w h3).mono ?_
        rintro e w' ⟨rfl, rfl⟩
        exact ⟨_, _, rfl, hs.drew.1.text []⟩
      · cases e
    · cases e
  · cases e

def growT : List AV → List (List AV) → Option (AV × List (List AV))
  | [.gp b 0 (some (t, 2)), .int .i64 n], s => if t = SB ∧ 0 ≤ n ∧ n ≤ 140737488351232 then (match s[b]? with
      | some [.nilp, .sl .nil []] => some (.tup [], s.set b [.gp b 0 (some (SB, 2)), .sl (.ex U8 1) []])
      | _ => none) else none
  | _, _ => none

theorem grow_ok {B : Nat} {W0 : World} {xs : List AV} {s : List (List AV)} {r : AV} {s' : List (List AV)} (e : growT xs s = some (r, s')) : ACalls Tryz.prog B W0 107 xs s r s' := by
  unfold growT at e
  split at e
  · rename_i b tt n
    split at e
    · rename_i ht
      obtain ⟨rfl, hn0, hn1⟩ := ht
      obtain ⟨m, rfl⟩ := Int.eq_ofNat_of_zero_le hn0
      intro T μ w vs hsz hW hs
      split at e
      · rename_i hb
        simp only [Option.some.injEq, Prod.mk.injEq] at e
        obtain ⟨rfl, rfl⟩ := e
        obtain ⟨blk, cur, ty, h1, h2, h3, h4, h5, h6, h7⟩ := hs.gp_open (i := 0) (b := b) (off := 0) (sh := some (SB, 2)) (by simp [params, look]) hb (by simp)
        have h8 := h7 _ rfl
        simp only [Prod.mk.injEq] at h8
        obtain ⟨rfl, h8⟩ := h8
        have hq1 : vs.getD 1 undef = .int .i64 m := by
          have := (hs.tmp 1 (.int .i64 m) (by simp [params, look])).1
          generalize hz : vs.getD 1 undef = z at this
          try simp only [hz] at this
          cases this; rfl
        obtain ⟨v0, v1, rfl⟩ : ∃ v0 v1, vs = #[v0, v1] := by
          obtain ⟨l⟩ := vs
          match l, hsz with
          | [p, q], _ => exact ⟨p, q, rfl⟩
        have hv0 : v0 = .pointer (some ⟨blk, 0, none⟩) := h1
        have hv1 : v1 = .int .i64 m := hq1
        subst hv0; subst hv1
        obtain ⟨p, q, rfl⟩ : ∃ p q, cur = #[p, q] := by
          obtain ⟨l⟩ := cur
          match l, h8 with
          | [p, q], _ => exact ⟨p, q, rfl⟩
        have kp : Rep B μ w p .nilp := (h6 0 _ rfl).2.1
        have kq : Rep B μ w q (.sl .nil []) := (h6 1 _ rfl).2.1
        obtain ⟨rfl, _⟩ := kq.nil_val
        obtain rfl : p = .pointer none := by cases kp; rfl
        have h9 := hs.setGlobCell (j := 0) (c := .gp b 0 (some (SB, 2))) (v := .pointer (some ⟨blk, 0, none⟩)) hb h2 h3 (by simp) (.mk' ⟨.gp _ _ _ _ h2 (fun q e => by injection e with e; subst e; simp [h3.shape]), trivial⟩ fun j => by cases j <;> rfl) rfl
        have hbl : b < s.length := (List.getElem?_eq_some_iff.1 hb).1
        have hs1 : (s.set b ([AV.nilp, .sl .nil []].set 0 (.gp b 0 (some (SB, 2)))))[b]? = some [.gp b 0 (some (SB, 2)), .sl .nil []] := by simp [hbl]
        have hh1 : Blk (w.setCell ⟨blk, 0, none⟩ (.pointer (some ⟨blk, 0, none⟩))) blk #[.pointer (some ⟨blk, 0, none⟩), .slice none 0 0] SB := by
          obtain ⟨fz, h3, ok3⟩ := h3; exact ⟨fz, by simp [World.setCell, Array.getElem?_modify, h3], ok3⟩
        refine (Grow_fresh blk m w h3 (by omega)).mono ?_
        rintro e w' ⟨rfl, ⟨cs, hcs, rfl⟩ | rfl⟩
        · obtain ⟨f1, f2⟩ := h9.fresh (vs := cs) (ty := U8) (els := []) (sz := 1) (cap := cs.size) (by omega) (by simp) (hcs (by unfold maxLen; omega)) (by simp) (fun x hx => by cases hx) (fun i j c hc => by simp at hc)
          have hh2 : Blk ((w.setCell ⟨blk, 0, none⟩ (.pointer (some ⟨blk, 0, none⟩))).alloc (.cells cs U8)) blk #[.pointer (some ⟨blk, 0, none⟩), .slice none 0 0] SB := hh1.of <|
            (Below.heap_alloc _ _ _ hh1.lt)
          have f3 := f1.setGlobCell (j := 1) hs1 h2 hh2 (by simp) f2 rfl
          have hset : (s.set b ([AV.nilp, .sl .nil []].set 0 (.gp b 0 (some (SB, 2))))).set b ([.gp b 0 (some (SB, 2)), AV.sl .nil []].set 1 (.sl (.ex U8 1) [])) = s.set b [.gp b 0 (some (SB, 2)), .sl (.ex U8 1) []] := by simp
          have f4 := f3.drew.1.drew.1.drew.1.drew.1
          simp only [hset] at f4
          have hsize : (w.setCell ⟨blk, 0, none⟩ (.pointer (some ⟨blk, 0, none⟩))).heap.size = w.heap.size := by simp [World.setCell]
          simp only [hsize] at f4
          exact ⟨_, _, rfl, f4.unit⟩
        · have f3 := h9.setGlobCell (j := 1) (v := .slice none 0 0) (c := .sl (.ex U8 1) []) hs1 h2 hh1 (by simp) (.mk' ⟨.slnil _, .inl rfl⟩ fun j => by cases j <;> rfl) rfl
          have hset : (s.set b ([AV.nilp, .sl .nil []].set 0 (.gp b 0 (some (SB, 2))))).set b ([.gp b 0 (some (SB, 2)), AV.sl .nil []].set 1 (.sl (.ex U8 1) [])) = s.set b [.gp b 0 (some (SB, 2)), .sl (.ex U8 1) []] := by simp
          have hid : ((w.setCell ⟨blk, 0, none⟩ (.pointer (some ⟨blk, 0, none⟩))).setCell ⟨blk, 1, none⟩ (.slice none 0 0)) = w.setCell ⟨blk, 0, none⟩ (.pointer (some ⟨blk, 0, none⟩)) := by
            obtain ⟨fz, hh1, _⟩ := hh1; rw [setCell_eq_setRow _ blk 1 _ SB fz _ hh1]
            have : (#[Value.pointer (some ⟨blk, 0, none⟩), .slice none 0 0].setIfInBounds 1 (.slice none 0 0)) = #[Value.pointer (some ⟨blk, 0, none⟩), .slice none 0 0] := rfl
            rw [this]; exact setRow_self _ _ _ _ _ hh1
          simp only [hset, hid] at f3
          exact ⟨_, _, rfl, f3.drew.1.unit⟩
      · cases e
    · cases e
  · cases e
end Go.Proofs.Tryz.Ai
end
section
/- Texts by the machine's own words: a byte's place, a byte's number, the order. -/
namespace Go.Proofs.Tryz.Ai
open Go Go.AI Go.RowKit Go.Proofs
set_option linter.unusedVariables false

set_option maxHeartbeats 1000000 in
set_option maxRecDepth 100000 in
theorem walk_index (s : ByteArray) (c : Int) (w : World) :
    Calls Tryz.prog 100 #[.string s, .int .u8 c] w fun e w' => e = .returned (.int .i64 (Lib.indexByte s.data.toList c.toNat.toUInt8)) ∧ w' = w := by
  go_enter Tryz.func100, Tryz.ntmps100
  go_wp2
  rw [run_callFunc_extern Tryz.func142 (by kernel_rfl) (by kernel_rfl) (by kernel_rfl) (e := Extern.BytealgIndexByte.indexByte) (by kernel_rfl), Lib.run_indexByteString]
  simp only [Result.andThen]
  rw [Oper.upon_value]
  go_wp2
  go_ret
  exact ⟨rfl, rfl⟩

set_option maxHeartbeats 1000000 in
set_option maxRecDepth 100000 in
theorem walk_compare (a b : ByteArray) (w : World) :
    Calls Tryz.prog 199 #[.string a, .string b] w fun e w' => e = .returned (.int .i64 (Lib.compareBytes a.data.toList b.data.toList)) ∧ w' = w := by
  go_enter Tryz.func199, Tryz.ntmps199
  go_wp2
  rw [run_callFunc_extern Tryz.func224 (by kernel_rfl) (by kernel_rfl) (by kernel_rfl) (e := Extern.BytealgCompare.compare) (by kernel_rfl), Lib.run_compareString]
  simp only [Result.andThen]
  rw [Oper.upon_value]
  go_wp2
  go_ret
  exact ⟨rfl, rfl⟩

set_option maxHeartbeats 1000000 in
set_option maxRecDepth 100000 in
theorem walk_count (s : ByteArray) (c : UInt8) (w : World) :
    Calls Tryz.prog 68 #[.string s, .string ⟨#[c]⟩] w fun e w' => e = .returned (.int .i64 (Lib.countByte s.data.toList c)) ∧ w' = w := by
  go_enter Tryz.func68, Tryz.ntmps68
  go_wp2
  rw [run_callFunc_extern Tryz.func105 (by kernel_rfl) (by kernel_rfl) (by kernel_rfl) (e := Extern.BytealgCount.count) (by kernel_rfl), Lib.run_countString]
  simp only [Result.andThen]
  rw [Oper.upon_value]
  go_wp2
  go_ret
  exact ⟨rfl, rfl⟩

section
variable {B : Nat} {W0 : World} {T0 : Nat → Prop} {μ0 : Gh} {w0 : World} {N : Nat} {μ : Gh} {lx : Nat → Option Nat} {a : Act} {w : World} {st : St}
theorem sim_num (h : Sim B T0 μ0 w0 N μ lx a w st) (k : IntKind) (n : Int) : Sim B T0 μ0 w0 1 μ (fun _ => none) ⟨#[.int k n], []⟩ w ⟨[(0, .int k n)], [], st.s⟩ :=
  h.out (.mk' ⟨.int k n, trivial⟩ fun j => by cases j <;> simp [ownV, exBlk]) fun d i q => by cases q
theorem two_args {vs : Array Value} (h : vs.size = 2) : ∃ u v, vs = #[u, v] := by
  obtain ⟨l⟩ := vs
  match l, h with
  | [u, v], _ => exact ⟨u, v, rfl⟩
theorem rep_str {v : Value} {l : List UInt8} (h : Rep B μ w v (.str l)) : ∃ s : ByteArray, v = .string s ∧ s.data.toList = l := by
  cases h with
  | str s => exact ⟨s, rfl, rfl⟩
theorem rep_int {v : Value} {k : IntKind} {n : Int} (h : Rep B μ w v (.int k n)) : v = .int k n := by
  cases h; rfl
end

def indexT : List AV → List (List AV) → Option (AV × List (List AV))
  | [.str l, .int .u8 c], s => some (.int .i64 (Lib.indexByte l c.toNat.toUInt8), s)
  | _, _ => none
theorem index_ok {B : Nat} {W0 : World} {xs : List AV} {s : List (List AV)} {r : AV} {s' : List (List AV)} (e : indexT xs s = some (r, s')) : ACalls Tryz.prog B W0 100 xs s r s' := by
  unfold indexT at e
  split at e
  · rename_i l c
    simp only [Option.some.injEq, Prod.mk.injEq] at e
    obtain ⟨rfl, rfl⟩ := e
    intro T μ w vs hsz hW hs
    obtain ⟨u, v, rfl⟩ := two_args (vs := vs) hsz
    obtain ⟨st, rfl, rfl⟩ := rep_str (hs.tmp 0 (.str l) (by simp [params, look])).1
    obtain rfl := rep_int (hs.tmp 1 (.int .u8 c) (by simp [params, look])).1
    refine (walk_index st c w).mono ?_
    rintro e w' ⟨rfl, rfl⟩
    exact ⟨_, _, rfl, sim_num hs _ _⟩
  · cases e
def compareT : List AV → List (List AV) → Option (AV × List (List AV))
  | [.str l, .str m], s => some (.int .i64 (Lib.compareBytes l m), s)
  | _, _ => none
theorem compare_ok {B : Nat} {W0 : World} {xs : List AV} {s : List (List AV)} {r : AV} {s' : List (List AV)} (e : compareT xs s = some (r, s')) : ACalls Tryz.prog B W0 199 xs s r s' := by
  unfold compareT at e
  split at e
  · rename_i l c
    simp only [Option.some.injEq, Prod.mk.injEq] at e
    obtain ⟨rfl, rfl⟩ := e
    intro T μ w vs hsz hW hs
    obtain ⟨u, v, rfl⟩ := two_args (vs := vs) hsz
    obtain ⟨st, rfl, rfl⟩ := rep_str (hs.tmp 0 (.str l) (by simp [params, look])).1
    obtain ⟨st2, rfl, rfl⟩ := rep_str (hs.tmp 1 (.str c) (by simp [params, look])).1
    refine (walk_compare st st2 w).mono ?_
    rintro e w' ⟨rfl, rfl⟩
    exact ⟨_, _, rfl, sim_num hs _ _⟩
  · cases e
def countT : List AV → List (List AV) → Option (AV × List (List AV))
  | [.str l, .str [c]], s => some (.int .i64 (Lib.countByte l c), s)
  | _, _ => none
theorem count_ok {B : Nat} {W0 : World} {xs : List AV} {s : List (List AV)} {r : AV} {s' : List (List AV)} (e : countT xs s = some (r, s')) : ACalls Tryz.prog B W0 68 xs s r s' := by
  unfold countT at e
  split at e
  · rename_i l c
    simp only [Option.some.injEq, Prod.mk.injEq] at e
    obtain ⟨rfl, rfl⟩ := e
    intro T μ w vs hsz hW hs
    obtain ⟨u, v, rfl⟩ := two_args (vs := vs) hsz
    obtain ⟨st, rfl, rfl⟩ := rep_str (hs.tmp 0 (.str l) (by simp [params, look])).1
    obtain ⟨⟨⟨p⟩⟩, rfl, hp⟩ := rep_str (hs.tmp 1 (.str [c]) (by simp [params, look])).1
    simp only at hp
    subst hp
    refine (walk_count st c w).mono ?_
    rintro e w' ⟨rfl, rfl⟩
    exact ⟨_, _, rfl, sim_num hs _ _⟩
  · cases e
end Go.Proofs.Tryz.Ai
end
section
/- The digits of a number: by the laid table of powers. -/
namespace Go.Proofs.Tryz.Ai
open Go Go.AI Go.RowKit Go.Proofs Go.Shelf
set_option linter.unusedVariables false
def ren : Go.Shelf.Ren := ⟨fun | 99 => 118 | 103 => 63 | 104 => 54 | 119 => 210 | 120 => 183 | 129 => 221 | 137 => 64 | 138 => 68 | 143 => 106 | 144 => 73 | 145 => 89 | 146 => 52 | 148 => 167 | 151 => 147 | 152 => 182 | 156 => 69 | 160 => 70 | 165 => 107 | 166 => 61 | 169 => 98 | 171 => 248 | 172 => 229 | 195 => 104 | 197 => 146 | 205 => 247 | 206 => 141 | 207 => 133 | 210 => 99 | 211 => 92 | 217 => 100 | 218 => 105 | 219 => 143 | 220 => 131 | 221 => 90 | 222 => 201 | 223 => 202 | 224 => 178 | 225 => 177 | 227 => 110 | 228 => 145 | 231 => 108 | 232 => 109 | 233 => 111 | 234 => 112 | 235 => 113 | 236 => 114 | 240 => 96 | 241 => 144 | 243 => 251 | 244 => 237 | 245 => 238 | 246 => 252 | 247 => 240 | 260 => 181 | 266 => 142 | 267 => 179 | 268 => 132 | 269 => 227 | 271 => 148 | 276 => 140 | 277 => 180 | 279 => 241 | 280 => 242 | 281 => 243 | 282 => 244 | 283 => 253 | 284 => 254 | 285 => 255 | 286 => 256 | 287 => 245 | 314 => 209 | 316 => 246 | 317 => 257 | 318 => 258 | 319 => 259 | 320 => 260 | 321 => 249 | 322 => 250 | 337 => 261 | 338 => 262 | n => n, fun | 0 => 0 | 2 => 2 | 3 => 3 | 4 => 4 | 5 => 5 | 9 => 9 | 20 => 20 | 21 => 21 | 24 => 35 | 31 => 56 | 37 => 99 | 46 => 146 | 51 => 210 | 53 => 226 | 59 => 135 | 70 => 98 | 72 => 101 | 75 => 103 | 76 => 104 | 80 => 144 | 85 => 239 | 105 => 178 | 116 => 153 | 117 => 154 | 119 => 213 | 124 => 157 | 127 => 176 | 138 => 215 | 139 => 216 | 143 => 252 | 145 => 254 | 146 => 211 | 164 => 174 | 167 => 238 | 168 => 241 | 171 => 256 | 173 => 258 | 175 => 244 | 210 => 248 | 212 => 260 | 213 => 261 | 232 => 262 | 233 => 263 | n => n, fun | 1 => 0 | 3 => 1 | 4 => 2 | 15 => 3 | 16 => 4 | 17 => 5 | 18 => 6 | 19 => 7 | n => n⟩
theorem lays_LaysM_n171 : LaysM.n171 Tryz.prog ren := { mixed := by kernel_rfl, f129 := by kernel_rfl, f171 := by kernel_rfl, f243 := by kernel_rfl, f246 := by kernel_rfl, f283 := by kernel_rfl, f284 := by kernel_rfl, f285 := by kernel_rfl, f286 := by kernel_rfl, f317 := by kernel_rfl, f318 := by kernel_rfl, f319 := by kernel_rfl, f320 := by kernel_rfl, f337 := by kernel_rfl, f338 := by kernel_rfl, t0 := Tryz.underlying0, a0 := Tryz.isAgg0, z0 := Tryz.sizeOf0, v0 := Tryz.zeroValue0, t2 := Tryz.underlying2, a2 := Tryz.isAgg2, z2 := Tryz.sizeOf2, v2 := Tryz.zeroValue2, t3 := Tryz.underlying3, a3 := Tryz.isAgg3, z3 := Tryz.sizeOf3, v3 := Tryz.zeroValue3, t4 := Tryz.underlying4, a4 := Tryz.isAgg4, z4 := Tryz.sizeOf4, v4 := Tryz.zeroValue4, t5 := Tryz.underlying5, a5 := Tryz.isAgg5, z5 := Tryz.sizeOf5, v5 := Tryz.zeroValue5, t9 := Tryz.underlying9, a9 := Tryz.isAgg9, z9 := Tryz.sizeOf9, v9 := Tryz.zeroValue9, t20 := Tryz.underlying20, a20 := Tryz.isAgg20, z20 := Tryz.sizeOf20, v20 := Tryz.zeroValue20, t37 := Tryz.underlying99, a37 := Tryz.isAgg99, z37 := Tryz.sizeOf99, v37 := Tryz.zeroValue99, t46 := Tryz.underlying146, a46 := Tryz.isAgg146, z46 := Tryz.sizeOf146, v46 := Tryz.zeroValue146, t51 := Tryz.underlying210, a51 := Tryz.isAgg210, z51 := Tryz.sizeOf210, v51 := Tryz.zeroValue210, t53 := Tryz.underlying226, a53 := Tryz.isAgg226, z53 := Tryz.sizeOf226, v53 := Tryz.zeroValue226, t171 := Tryz.underlying256, a171 := Tryz.isAgg256, z171 := Tryz.sizeOf256, v171 := Tryz.zeroValue256, t173 := Tryz.underlying258, a173 := Tryz.isAgg258, z173 := Tryz.sizeOf258, v173 := Tryz.zeroValue258, t212 := Tryz.underlying260, a212 := Tryz.isAgg260, z212 := Tryz.sizeOf260, v212 := Tryz.zeroValue260, t213 := Tryz.underlying261, a213 := Tryz.isAgg261, z213 := Tryz.sizeOf261, t232 := Tryz.underlying262, a232 := Tryz.isAgg262, z232 := Tryz.sizeOf262, v232 := Tryz.zeroValue262, t233 := Tryz.underlying263, a233 := Tryz.isAgg263, z233 := Tryz.sizeOf263, v233 := Tryz.zeroValue263, g17 := by kernel_rfl, g18 := by kernel_rfl, g19 := by kernel_rfl, i0 := by kernel_rfl, i2 := by kernel_rfl, i3 := by kernel_rfl, i4 := by kernel_rfl, i5 := by kernel_rfl, i9 := by kernel_rfl, i20 := by kernel_rfl, i37 := by kernel_rfl, i46 := by kernel_rfl, i51 := by kernel_rfl, i53 := by kernel_rfl, i171 := by kernel_rfl, i173 := by kernel_rfl, i212 := by kernel_rfl, i232 := by kernel_rfl, i233 := by kernel_rfl, m17 := by kernel_rfl, m18 := by kernel_rfl, m19 := by kernel_rfl }
theorem lays_Lays_n219 : Lays.n219 Tryz.prog ren := { mixed := by kernel_rfl, f217 := by kernel_rfl, f219 := by kernel_rfl, f224 := by kernel_rfl, f225 := by kernel_rfl, f266 := by kernel_rfl, f267 := by kernel_rfl, f314 := by kernel_rfl, t3 := Tryz.underlying3, a3 := Tryz.isAgg3, z3 := Tryz.sizeOf3, v3 := Tryz.zeroValue3, t4 := Tryz.underlying4, a4 := Tryz.isAgg4, z4 := Tryz.sizeOf4, v4 := Tryz.zeroValue4, t5 := Tryz.underlying5, a5 := Tryz.isAgg5, z5 := Tryz.sizeOf5, v5 := Tryz.zeroValue5, t9 := Tryz.underlying9, a9 := Tryz.isAgg9, z9 := Tryz.sizeOf9, v9 := Tryz.zeroValue9, t46 := Tryz.underlying146, a46 := Tryz.isAgg146, z46 := Tryz.sizeOf146, v46 := Tryz.zeroValue146, t51 := Tryz.underlying210, a51 := Tryz.isAgg210, z51 := Tryz.sizeOf210, v51 := Tryz.zeroValue210, t146 := Tryz.underlying211, a146 := Tryz.isAgg211, z146 := Tryz.sizeOf211, v146 := Tryz.zeroValue211, g1 := by kernel_rfl }
theorem lays_LaysC_n172 : LaysC.n172 Tryz.prog ren := { mixed := by kernel_rfl, f129 := by kernel_rfl, f171 := by kernel_rfl, f172 := by kernel_rfl, f205 := by kernel_rfl, f243 := by kernel_rfl, f244 := by kernel_rfl, f245 := by kernel_rfl, f246 := by kernel_rfl, f247 := by kernel_rfl, f279 := by kernel_rfl, f280 := by kernel_rfl, f281 := by kernel_rfl, f282 := by kernel_rfl, f283 := by kernel_rfl, f284 := by kernel_rfl, f285 := by kernel_rfl, f286 := by kernel_rfl, f287 := by kernel_rfl, f316 := by kernel_rfl, f317 := by kernel_rfl, f318 := by kernel_rfl, f319 := by kernel_rfl, f320 := by kernel_rfl, f321 := by kernel_rfl, f322 := by kernel_rfl, f337 := by kernel_rfl, f338 := by kernel_rfl, t0 := Tryz.underlying0, a0 := Tryz.isAgg0, z0 := Tryz.sizeOf0, v0 := Tryz.zeroValue0, t2 := Tryz.underlying2, a2 := Tryz.isAgg2, z2 := Tryz.sizeOf2, v2 := Tryz.zeroValue2, t3 := Tryz.underlying3, a3 := Tryz.isAgg3, z3 := Tryz.sizeOf3, v3 := Tryz.zeroValue3, t4 := Tryz.underlying4, a4 := Tryz.isAgg4, z4 := Tryz.sizeOf4, v4 := Tryz.zeroValue4, t5 := Tryz.underlying5, a5 := Tryz.isAgg5, z5 := Tryz.sizeOf5, v5 := Tryz.zeroValue5, t9 := Tryz.underlying9, a9 := Tryz.isAgg9, z9 := Tryz.sizeOf9, v9 := Tryz.zeroValue9, t20 := Tryz.underlying20, a20 := Tryz.isAgg20, z20 := Tryz.sizeOf20, v20 := Tryz.zeroValue20, t21 := Tryz.underlying21, a21 := Tryz.isAgg21, z21 := Tryz.sizeOf21, v21 := Tryz.zeroValue21, t37 := Tryz.underlying99, a37 := Tryz.isAgg99, z37 := Tryz.sizeOf99, v37 := Tryz.zeroValue99, t46 := Tryz.underlying146, a46 := Tryz.isAgg146, z46 := Tryz.sizeOf146, v46 := Tryz.zeroValue146, t51 := Tryz.underlying210, a51 := Tryz.isAgg210, z51 := Tryz.sizeOf210, v51 := Tryz.zeroValue210, t53 := Tryz.underlying226, a53 := Tryz.isAgg226, z53 := Tryz.sizeOf226, v53 := Tryz.zeroValue226, t75 := Tryz.underlying103, a75 := Tryz.isAgg103, z75 := Tryz.sizeOf103, v75 := Tryz.zeroValue103, t76 := Tryz.underlying104, a76 := Tryz.isAgg104, z76 := Tryz.sizeOf104, v76 := Tryz.zeroValue104, t85 := Tryz.underlying239, a85 := Tryz.isAgg239, z85 := Tryz.sizeOf239, v85 := Tryz.zeroValue239, t127 := Tryz.underlying176, a127 := Tryz.isAgg176, z127 := Tryz.sizeOf176, v127 := Tryz.zeroValue176, t143 := Tryz.underlying252, a143 := Tryz.isAgg252, z143 := Tryz.sizeOf252, v143 := Tryz.zeroValue252, t145 := Tryz.underlying254, a145 := Tryz.isAgg254, z145 := Tryz.sizeOf254, v145 := Tryz.zeroValue254, t167 := Tryz.underlying238, a167 := Tryz.isAgg238, z167 := Tryz.sizeOf238, v167 := Tryz.zeroValue238, t168 := Tryz.underlying241, a168 := Tryz.isAgg241, z168 := Tryz.sizeOf241, v168 := Tryz.zeroValue241, t171 := Tryz.underlying256, a171 := Tryz.isAgg256, z171 := Tryz.sizeOf256, v171 := Tryz.zeroValue256, t173 := Tryz.underlying258, a173 := Tryz.isAgg258, z173 := Tryz.sizeOf258, v173 := Tryz.zeroValue258, t175 := Tryz.underlying244, a175 := Tryz.isAgg244, z175 := Tryz.sizeOf244, v175 := Tryz.zeroValue244, t210 := Tryz.underlying248, a210 := Tryz.isAgg248, z210 := Tryz.sizeOf248, v210 := Tryz.zeroValue248, t212 := Tryz.underlying260, a212 := Tryz.isAgg260, z212 := Tryz.sizeOf260, v212 := Tryz.zeroValue260, t213 := Tryz.underlying261, a213 := Tryz.isAgg261, z213 := Tryz.sizeOf261, t232 := Tryz.underlying262, a232 := Tryz.isAgg262, z232 := Tryz.sizeOf262, v232 := Tryz.zeroValue262, t233 := Tryz.underlying263, a233 := Tryz.isAgg263, z233 := Tryz.sizeOf263, v233 := Tryz.zeroValue263, g15 := by kernel_rfl, g16 := by kernel_rfl, g17 := by kernel_rfl, g18 := by kernel_rfl, g19 := by kernel_rfl, t80 := Tryz.underlying144, a80 := Tryz.isAgg144, z80 := Tryz.sizeOf144, v80 := Tryz.zeroValue144, i0 := by kernel_rfl, i2 := by kernel_rfl, i3 := by kernel_rfl, i4 := by kernel_rfl, i5 := by kernel_rfl, i9 := by kernel_rfl, i20 := by kernel_rfl, i21 := by kernel_rfl, i37 := by kernel_rfl, i46 := by kernel_rfl, i51 := by kernel_rfl, i53 := by kernel_rfl, i75 := by kernel_rfl, i76 := by kernel_rfl, i80 := by kernel_rfl, i85 := by kernel_rfl, i127 := by kernel_rfl, i143 := by kernel_rfl, i145 := by kernel_rfl, i167 := by kernel_rfl, i168 := by kernel_rfl, i171 := by kernel_rfl, i173 := by kernel_rfl, i175 := by kernel_rfl, i210 := by kernel_rfl, i212 := by kernel_rfl, i232 := by kernel_rfl, i233 := by kernel_rfl, m15 := by kernel_rfl, m16 := by kernel_rfl, m17 := by kernel_rfl, m18 := by kernel_rfl, m19 := by kernel_rfl, c0 := by kernel_rfl, c2 := by kernel_rfl, c3 := by kernel_rfl, c4 := by kernel_rfl, c5 := by kernel_rfl, c9 := by kernel_rfl, c20 := by kernel_rfl, c21 := by kernel_rfl, c37 := by kernel_rfl, c46 := by kernel_rfl, c51 := by kernel_rfl, c53 := by kernel_rfl, c75 := by kernel_rfl, c76 := by kernel_rfl, c80 := by kernel_rfl, c85 := by kernel_rfl, c127 := by kernel_rfl, c143 := by kernel_rfl, c145 := by kernel_rfl, c167 := by kernel_rfl, c168 := by kernel_rfl, c171 := by kernel_rfl, c173 := by kernel_rfl, c175 := by kernel_rfl, c210 := by kernel_rfl, c212 := by kernel_rfl, c213 := by kernel_rfl, c232 := by kernel_rfl, c233 := by kernel_rfl }
theorem lays_Lays_n148 : Lays.n148 Tryz.prog ren := { mixed := by kernel_rfl, f148 := by kernel_rfl, f222 := by kernel_rfl, f223 := by kernel_rfl, f269 := by kernel_rfl, t3 := Tryz.underlying3, a3 := Tryz.isAgg3, z3 := Tryz.sizeOf3, v3 := Tryz.zeroValue3, t4 := Tryz.underlying4, a4 := Tryz.isAgg4, z4 := Tryz.sizeOf4, v4 := Tryz.zeroValue4, t5 := Tryz.underlying5, a5 := Tryz.isAgg5, z5 := Tryz.sizeOf5, v5 := Tryz.zeroValue5, t9 := Tryz.underlying9, a9 := Tryz.isAgg9, z9 := Tryz.sizeOf9, v9 := Tryz.zeroValue9, t46 := Tryz.underlying146, a46 := Tryz.isAgg146, z46 := Tryz.sizeOf146, v46 := Tryz.zeroValue146, t51 := Tryz.underlying210, a51 := Tryz.isAgg210, z51 := Tryz.sizeOf210, v51 := Tryz.zeroValue210, t146 := Tryz.underlying211, a146 := Tryz.isAgg211, z146 := Tryz.sizeOf211, v146 := Tryz.zeroValue211 }
theorem lays_Builder_Extra : Builder.Extra Tryz.prog ren := { sizeBuilder := by kernel_rfl, liesBuilder := by kernel_rfl, t5 := Tryz.underlying5, a5 := Tryz.isAgg5, z5 := Tryz.sizeOf5, v5 := Tryz.zeroValue5, infoByte := by kernel_rfl, cellsByte := by kernel_rfl, sizeByte := by kernel_rfl, neB5 := by decide }
theorem lays_Lays_n145 : Lays.n145 Tryz.prog ren := { mixed := by kernel_rfl, f145 := by kernel_rfl, f217 := by kernel_rfl, f219 := by kernel_rfl, f220 := by kernel_rfl, f224 := by kernel_rfl, f225 := by kernel_rfl, f266 := by kernel_rfl, f267 := by kernel_rfl, f314 := by kernel_rfl, t3 := Tryz.underlying3, a3 := Tryz.isAgg3, z3 := Tryz.sizeOf3, v3 := Tryz.zeroValue3, t4 := Tryz.underlying4, a4 := Tryz.isAgg4, z4 := Tryz.sizeOf4, v4 := Tryz.zeroValue4, t5 := Tryz.underlying5, a5 := Tryz.isAgg5, z5 := Tryz.sizeOf5, v5 := Tryz.zeroValue5, t9 := Tryz.underlying9, a9 := Tryz.isAgg9, z9 := Tryz.sizeOf9, v9 := Tryz.zeroValue9, t46 := Tryz.underlying146, a46 := Tryz.isAgg146, z46 := Tryz.sizeOf146, v46 := Tryz.zeroValue146, t51 := Tryz.underlying210, a51 := Tryz.isAgg210, z51 := Tryz.sizeOf210, v51 := Tryz.zeroValue210, t59 := Tryz.underlying135, a59 := Tryz.isAgg135, z59 := Tryz.sizeOf135, v59 := Tryz.zeroValue135, t146 := Tryz.underlying211, a146 := Tryz.isAgg211, z146 := Tryz.sizeOf211, v146 := Tryz.zeroValue211, g1 := by kernel_rfl }
theorem lays_Lays_n146 : Lays.n146 Tryz.prog ren := { mixed := by kernel_rfl, f138 := by kernel_rfl, f143 := by kernel_rfl, f146 := by kernel_rfl, f195 := by kernel_rfl, f197 := by kernel_rfl, f217 := by kernel_rfl, f218 := by kernel_rfl, f219 := by kernel_rfl, f221 := by kernel_rfl, f224 := by kernel_rfl, f225 := by kernel_rfl, f260 := by kernel_rfl, f266 := by kernel_rfl, f267 := by kernel_rfl, f268 := by kernel_rfl, f314 := by kernel_rfl, t0 := Tryz.underlying0, a0 := Tryz.isAgg0, z0 := Tryz.sizeOf0, v0 := Tryz.zeroValue0, t3 := Tryz.underlying3, a3 := Tryz.isAgg3, z3 := Tryz.sizeOf3, v3 := Tryz.zeroValue3, t4 := Tryz.underlying4, a4 := Tryz.isAgg4, z4 := Tryz.sizeOf4, v4 := Tryz.zeroValue4, t5 := Tryz.underlying5, a5 := Tryz.isAgg5, z5 := Tryz.sizeOf5, v5 := Tryz.zeroValue5, t9 := Tryz.underlying9, a9 := Tryz.isAgg9, z9 := Tryz.sizeOf9, v9 := Tryz.zeroValue9, t21 := Tryz.underlying21, a21 := Tryz.isAgg21, z21 := Tryz.sizeOf21, v21 := Tryz.zeroValue21, t31 := Tryz.underlying56, a31 := Tryz.isAgg56, z31 := Tryz.sizeOf56, v31 := Tryz.zeroValue56, t46 := Tryz.underlying146, a46 := Tryz.isAgg146, z46 := Tryz.sizeOf146, v46 := Tryz.zeroValue146, t51 := Tryz.underlying210, a51 := Tryz.isAgg210, z51 := Tryz.sizeOf210, v51 := Tryz.zeroValue210, t105 := Tryz.underlying178, a105 := Tryz.isAgg178, z105 := Tryz.sizeOf178, v105 := Tryz.zeroValue178, t119 := Tryz.underlying213, a119 := Tryz.isAgg213, z119 := Tryz.sizeOf213, t138 := Tryz.underlying215, a138 := Tryz.isAgg215, z138 := Tryz.sizeOf215, v138 := Tryz.zeroValue215, t139 := Tryz.underlying216, a139 := Tryz.isAgg216, z139 := Tryz.sizeOf216, v139 := Tryz.zeroValue216, t146 := Tryz.underlying211, a146 := Tryz.isAgg211, z146 := Tryz.sizeOf211, v146 := Tryz.zeroValue211, g1 := by kernel_rfl, g3 := by kernel_rfl, g4 := by kernel_rfl }
theorem lays_Lays_n103 : Lays.n103 Tryz.prog ren := { mixed := by kernel_rfl, f103 := by kernel_rfl, f206 := by kernel_rfl, f210 := by kernel_rfl, t3 := Tryz.underlying3, a3 := Tryz.isAgg3, z3 := Tryz.sizeOf3, v3 := Tryz.zeroValue3, t4 := Tryz.underlying4, a4 := Tryz.isAgg4, z4 := Tryz.sizeOf4, v4 := Tryz.zeroValue4, t9 := Tryz.underlying9, a9 := Tryz.isAgg9, z9 := Tryz.sizeOf9, v9 := Tryz.zeroValue9, t24 := Tryz.underlying35, a24 := Tryz.isAgg35, z24 := Tryz.sizeOf35, v24 := Tryz.zeroValue35 }
theorem lays_Lays_n104 : Lays.n104 Tryz.prog ren := { mixed := by kernel_rfl, f104 := by kernel_rfl, f207 := by kernel_rfl, f211 := by kernel_rfl, t3 := Tryz.underlying3, a3 := Tryz.isAgg3, z3 := Tryz.sizeOf3, v3 := Tryz.zeroValue3, t4 := Tryz.underlying4, a4 := Tryz.isAgg4, z4 := Tryz.sizeOf4, v4 := Tryz.zeroValue4, t9 := Tryz.underlying9, a9 := Tryz.isAgg9, z9 := Tryz.sizeOf9, v9 := Tryz.zeroValue9, t24 := Tryz.underlying35, a24 := Tryz.isAgg35, z24 := Tryz.sizeOf35, v24 := Tryz.zeroValue35 }
theorem lays_Lays_n99 : Lays.n99 Tryz.prog ren := { mixed := by kernel_rfl, f99 := by kernel_rfl, f206 := by kernel_rfl, t3 := Tryz.underlying3, a3 := Tryz.isAgg3, z3 := Tryz.sizeOf3, v3 := Tryz.zeroValue3, t4 := Tryz.underlying4, a4 := Tryz.isAgg4, z4 := Tryz.sizeOf4, v4 := Tryz.zeroValue4, t9 := Tryz.underlying9, a9 := Tryz.isAgg9, z9 := Tryz.sizeOf9, v9 := Tryz.zeroValue9 }
theorem lays_Lays_n160 : Lays.n160 Tryz.prog ren := { mixed := by kernel_rfl, f119 := by kernel_rfl, f120 := by kernel_rfl, f137 := by kernel_rfl, f151 := by kernel_rfl, f152 := by kernel_rfl, f160 := by kernel_rfl, f197 := by kernel_rfl, f217 := by kernel_rfl, f224 := by kernel_rfl, f225 := by kernel_rfl, f227 := by kernel_rfl, f228 := by kernel_rfl, f231 := by kernel_rfl, f232 := by kernel_rfl, f233 := by kernel_rfl, f234 := by kernel_rfl, f235 := by kernel_rfl, f236 := by kernel_rfl, f260 := by kernel_rfl, f266 := by kernel_rfl, f271 := by kernel_rfl, t0 := Tryz.underlying0, a0 := Tryz.isAgg0, z0 := Tryz.sizeOf0, v0 := Tryz.zeroValue0, t3 := Tryz.underlying3, a3 := Tryz.isAgg3, z3 := Tryz.sizeOf3, v3 := Tryz.zeroValue3, t4 := Tryz.underlying4, a4 := Tryz.isAgg4, z4 := Tryz.sizeOf4, v4 := Tryz.zeroValue4, t5 := Tryz.underlying5, a5 := Tryz.isAgg5, z5 := Tryz.sizeOf5, v5 := Tryz.zeroValue5, t9 := Tryz.underlying9, a9 := Tryz.isAgg9, z9 := Tryz.sizeOf9, v9 := Tryz.zeroValue9, t21 := Tryz.underlying21, a21 := Tryz.isAgg21, z21 := Tryz.sizeOf21, v21 := Tryz.zeroValue21, t46 := Tryz.underlying146, a46 := Tryz.isAgg146, z46 := Tryz.sizeOf146, v46 := Tryz.zeroValue146, t105 := Tryz.underlying178, a105 := Tryz.isAgg178, z105 := Tryz.sizeOf178, v105 := Tryz.zeroValue178, t116 := Tryz.underlying153, a116 := Tryz.isAgg153, z116 := Tryz.sizeOf153, t117 := Tryz.underlying154, a117 := Tryz.isAgg154, z117 := Tryz.sizeOf154, v117 := Tryz.zeroValue154, t119 := Tryz.underlying213, a119 := Tryz.isAgg213, z119 := Tryz.sizeOf213, t124 := Tryz.underlying157, a124 := Tryz.isAgg157, z124 := Tryz.sizeOf157, v124 := Tryz.zeroValue157, t138 := Tryz.underlying215, a138 := Tryz.isAgg215, z138 := Tryz.sizeOf215, v138 := Tryz.zeroValue215, t139 := Tryz.underlying216, a139 := Tryz.isAgg216, z139 := Tryz.sizeOf216, v139 := Tryz.zeroValue216, g3 := by kernel_rfl, g4 := by kernel_rfl }
theorem lays_Lays_n144 : Lays.n144 Tryz.prog ren := { mixed := by kernel_rfl, f143 := by kernel_rfl, f144 := by kernel_rfl, f217 := by kernel_rfl, f219 := by kernel_rfl, f224 := by kernel_rfl, f225 := by kernel_rfl, f266 := by kernel_rfl, f267 := by kernel_rfl, f314 := by kernel_rfl, t3 := Tryz.underlying3, a3 := Tryz.isAgg3, z3 := Tryz.sizeOf3, v3 := Tryz.zeroValue3, t4 := Tryz.underlying4, a4 := Tryz.isAgg4, z4 := Tryz.sizeOf4, v4 := Tryz.zeroValue4, t5 := Tryz.underlying5, a5 := Tryz.isAgg5, z5 := Tryz.sizeOf5, v5 := Tryz.zeroValue5, t9 := Tryz.underlying9, a9 := Tryz.isAgg9, z9 := Tryz.sizeOf9, v9 := Tryz.zeroValue9, t46 := Tryz.underlying146, a46 := Tryz.isAgg146, z46 := Tryz.sizeOf146, v46 := Tryz.zeroValue146, t51 := Tryz.underlying210, a51 := Tryz.isAgg210, z51 := Tryz.sizeOf210, v51 := Tryz.zeroValue210, t146 := Tryz.underlying211, a146 := Tryz.isAgg211, z146 := Tryz.sizeOf211, v146 := Tryz.zeroValue211, g1 := by kernel_rfl }
theorem lays_Lays_n156 : Lays.n156 Tryz.prog ren := { mixed := by kernel_rfl, f156 := by kernel_rfl, f165 := by kernel_rfl, f166 := by kernel_rfl, f169 := by kernel_rfl, f240 := by kernel_rfl, f241 := by kernel_rfl, f276 := by kernel_rfl, f277 := by kernel_rfl, t0 := Tryz.underlying0, a0 := Tryz.isAgg0, z0 := Tryz.sizeOf0, v0 := Tryz.zeroValue0, t3 := Tryz.underlying3, a3 := Tryz.isAgg3, z3 := Tryz.sizeOf3, v3 := Tryz.zeroValue3, t4 := Tryz.underlying4, a4 := Tryz.isAgg4, z4 := Tryz.sizeOf4, v4 := Tryz.zeroValue4, t9 := Tryz.underlying9, a9 := Tryz.isAgg9, z9 := Tryz.sizeOf9, v9 := Tryz.zeroValue9, t20 := Tryz.underlying20, a20 := Tryz.isAgg20, z20 := Tryz.sizeOf20, v20 := Tryz.zeroValue20, t31 := Tryz.underlying56, a31 := Tryz.isAgg56, z31 := Tryz.sizeOf56, v31 := Tryz.zeroValue56, t37 := Tryz.underlying99, a37 := Tryz.isAgg99, z37 := Tryz.sizeOf99, v37 := Tryz.zeroValue99, t70 := Tryz.underlying98, a70 := Tryz.isAgg98, z70 := Tryz.sizeOf98, v70 := Tryz.zeroValue98, t72 := Tryz.underlying101, a72 := Tryz.isAgg101, z72 := Tryz.sizeOf101, v72 := Tryz.zeroValue101, t75 := Tryz.underlying103, a75 := Tryz.isAgg103, z75 := Tryz.sizeOf103, v75 := Tryz.zeroValue103, t76 := Tryz.underlying104, a76 := Tryz.isAgg104, z76 := Tryz.sizeOf104, v76 := Tryz.zeroValue104, t127 := Tryz.underlying176, a127 := Tryz.isAgg176, z127 := Tryz.sizeOf176, v127 := Tryz.zeroValue176, t164 := Tryz.underlying174, a164 := Tryz.isAgg174, z164 := Tryz.sizeOf174, v164 := Tryz.zeroValue174 }

def renW : Go.Shelf.Ren := ⟨fun | 15 => 115 | 17 => 71 | 20 => 149 | n => n, fun | 0 => 0 | 3 => 3 | 4 => 4 | 9 => 9 | 21 => 21 | 23 => 115 | n => n, fun | n => n⟩
theorem lays_LaysGw_n17 : LaysGw.n17 Tryz.prog renW := { mixed := by kernel_rfl, f15 := by kernel_rfl, f17 := by kernel_rfl, f20 := by kernel_rfl, t0 := Tryz.underlying0, a0 := Tryz.isAgg0, z0 := Tryz.sizeOf0, v0 := Tryz.zeroValue0, i0 := by kernel_rfl, t3 := Tryz.underlying3, a3 := Tryz.isAgg3, z3 := Tryz.sizeOf3, v3 := Tryz.zeroValue3, i3 := by kernel_rfl, t4 := Tryz.underlying4, a4 := Tryz.isAgg4, z4 := Tryz.sizeOf4, v4 := Tryz.zeroValue4, i4 := by kernel_rfl, t9 := Tryz.underlying9, a9 := Tryz.isAgg9, z9 := Tryz.sizeOf9, v9 := Tryz.zeroValue9, i9 := by kernel_rfl, t21 := Tryz.underlying21, a21 := Tryz.isAgg21, z21 := Tryz.sizeOf21, v21 := Tryz.zeroValue21, i21 := by kernel_rfl, t23 := Tryz.underlying115, a23 := Tryz.isAgg115, z23 := Tryz.sizeOf115, v23 := Tryz.zeroValue115, i23 := by kernel_rfl }

def Laid (W : World) : Prop := Lib.TabIs Tryz.prog W "internal/strconv.uint64pow10" .u64 Lib.pow10Tab
section
variable {B : Nat} {T0 : Nat → Prop} {μ0 : Gh} {w0 : World} {N : Nat} {μ : Gh} {lx : Nat → Option Nat} {a : Act} {w : World} {st : St}
theorem sim_drewN (h : Sim B T0 μ0 w0 N μ lx a w st) (k : Nat) : Sim B T0 μ0 w0 N μ lx a (w.drewN k) st := by
  induction k with
  | zero => exact h
  | succ k ih => exact ih.drew.1
theorem sim_grow (os : List Obj) : ∀ {w : World}, Sim B T0 μ0 w0 N μ lx a w st → Sim B T0 μ0 w0 N μ lx a (Go.Sort.grow w os.toArray) st := by
  induction os with
  | nil => exact fun h => by simpa using h
  | cons o r ih =>
    intro w h
    have := ih (h.alloc o)
    rw [Go.Sort.alloc_eq_grow, Go.Sort.grow_grow] at this
    simpa using this
end
noncomputable def itoaT : List AV → List (List AV) → Option (AV × List (List AV))
  | [.int .i64 n], s => need (-9223372036854775808 ≤ n ∧ n ≤ 9223372036854775807) (some (.str (Lib.itoa n), s))
  | _, _ => none
theorem itoa_ok {W0 : World} (hl : Laid W0) {xs : List AV} {s : List (List AV)} {r : AV} {s' : List (List AV)} (e : itoaT xs s = some (r, s')) : ACalls Tryz.prog W0.heap.size W0 248 xs s r s' := by
  unfold itoaT at e
  split at e
  · rename_i n
    obtain ⟨hn, e⟩ := need_eq e
    simp only [Option.some.injEq, Prod.mk.injEq] at e
    obtain ⟨rfl, rfl⟩ := e
    intro T μ w vs hsz hW hs
    obtain ⟨v, rfl, _⟩ := one_arg (B := 0) (T0 := T) (μ0 := μ) (w0 := w) (N := 1) (μ := μ) (lx := fun _ => none) (w := w) (x := .nilp) (s := []) hsz
    obtain rfl := rep_int (hs.tmp 0 (.int .i64 n) (by simp [params, look])).1
    have hw : Laid w := Lib.tabBelow_of_tabIs hl w hW
    refine (Any.strconv_Itoa lays_LaysM_n171 n hn.1 hn.2 w hw).mono ?_
    rintro e w' ⟨rfl, k, os, rfl⟩
    exact ⟨_, _, rfl, by have := (sim_grow os.toList (sim_drewN hs k)).text (Lib.itoa n); simpa using this⟩
  · cases e
end Go.Proofs.Tryz.Ai
end
section
/- Functions of the library, by the kit's contracts. -/
namespace Go.Proofs.Tryz.Ai
open Go Go.AI Go.RowKit Go.Proofs Go.Shelf
set_option linter.unusedVariables false

def IntAt (W : World) (g : Nat) : Prop := ∃ m, W.cell? ⟨g, 0, none⟩ = some (.int .i64 m)
def ErrAt (W : World) (g : Nat) : Prop := ∃ ev, W.cell? ⟨g, 0, none⟩ = some ev ∧ (ev = .nilIface ∨ ∃ te pe, ev = .iface te pe)
theorem IntAt.below {W0 w : World} {g : Nat} (h : IntAt W0 g) (hb : Below W0.heap.size W0 w) : IntAt w g := by
  obtain ⟨m, hm⟩ := h
  exact ⟨m, by rw [hb.cell (World.block_lt_of_cell? _ _ hm)]; exact hm⟩
theorem ErrAt.below {W0 w : World} {g : Nat} (h : ErrAt W0 g) (hb : Below W0.heap.size W0 w) : ErrAt w g := by
  obtain ⟨m, hm, hx⟩ := h
  exact ⟨m, by rw [hb.cell (World.block_lt_of_cell? _ _ hm)]; exact hm, hx⟩
/-- what a row lays, and what each world has -/
structure LaidAll (W : World) : Prop where
  tab : Laid W
  max : IntAt W 0
  esyn : ErrAt W 3
  eran : ErrAt W 4
theorem maxLen_of {W : World} (h : W.ShapedOpen Tryz.prog) : IntAt W 0 :=
  cell_of_shapedOpen_int (t := 3) (zero := #[.int .i64 0]) h (by decide +kernel) (by kernel_rfl) rfl (by kernel_rfl) (by kernel_rfl) Tryz.underlying3
noncomputable def indexST : List AV → List (List AV) → Option (AV × List (List AV))
  | [.str l, .str m], s => need (l.length < 4294967281) (some (.int .i64 (Lib.index l m), s))
  | _, _ => none
theorem indexS_ok {W0 : World} (hl : LaidAll W0) {xs : List AV} {s : List (List AV)} {r : AV} {s' : List (List AV)} (e : indexST xs s = some (r, s')) : ACalls Tryz.prog W0.heap.size W0 143 xs s r s' := by
  unfold indexST at e
  split at e
  · rename_i l m
    obtain ⟨hn, e⟩ := need_eq e
    simp only [Option.some.injEq, Prod.mk.injEq] at e
    obtain ⟨rfl, rfl⟩ := e
    refine ACalls_ext fun w vs hsz hW hr => ?_
    obtain ⟨u, v, rfl⟩ := two_args (vs := vs) hsz
    obtain ⟨μ, h0⟩ := hr 0 (.str l) rfl
    obtain ⟨μ', h1⟩ := hr 1 (.str m) rfl
    obtain ⟨a, rfl, rfl⟩ := rep_str (h0.resolve_right (by simp [isTup]))
    obtain ⟨b, rfl, rfl⟩ := rep_str (h1.resolve_right (by simp [isTup]))
    obtain ⟨k, hk⟩ := hl.max.below hW
    refine (Any.stringslite_Index lays_Lays_n219 a b k w (by simpa using hn) hk).mono ?_
    rintro e w' ⟨rfl, rfl⟩
    exact ⟨_, rfl, AI.Told.int _ _, Below.refl _ _⟩
  · cases e
theorem starErr : "*" ++ "errors.errorString" = "*errors.errorString" := by decide
theorem rowErr (u : TypeId) (h : Tryz.prog.typeName? 3 u = some "*errors.errorString") : u = 252 :=
  typeName_ptr_named (nm := "errors.errorString") (by rw [starErr]; kernel_rfl) (by kernel_rfl) (by decide) u (by rw [starErr]; exact h)
theorem laidMet_drop {P : Program} {w : World} (k : Nat) : ∀ {laid : List (String × DataW Unit)}, laidMet P laid w → laidMet P (laid.drop k) w := by
  induction k with
  | zero => intro laid h; exact h
  | succ k ih =>
    intro laid h
    cases laid with
    | nil => exact h
    | cons x r => exact ih h.tail
theorem errAt_of {n : String} {text : List UInt8} {r : List (String × DataW Unit)} {W : World} {g : Nat} (h : laidMet Tryz.prog ((n, .iface "*errors.errorString" (.ptr (.agg [.lit (.string text)]))) :: r) W)
    (hg : Tryz.prog.globalNamed n = some g) (ht : (Tryz.prog.globals[g]?).map (·.type) = some 103) : ErrAt W g := by
  obtain ⟨a0, s0, hv0, -, -, -⟩ := laid_sentinel h hg ht Tryz.underlying103 rowErr Tryz.underlying252 Tryz.underlying254 rfl rfl Tryz.underlying9 (by kernel_rfl) (by kernel_rfl)
  exact ⟨_, by have h0 := World.var?_cell hg hv0 0; simpa using h0, .inr ⟨_, _, rfl⟩⟩
noncomputable def atoiT : List AV → List (List AV) → Option (AV × List (List AV))
  | [.str l], s => need (l.length ≤ 281474976710656) (match Lib.atoiAll l with
    | .ok v => some (.tup [.int .i64 v, .nili], s)
    | .range => some (.tup [.int .i64 (Lib.atoiSat l), .ifx], s)
    | _ => some (.tup [.int .i64 0, .ifx], s))
  | _, _ => none
theorem atoi_ok {W0 : World} (hl : LaidAll W0) {xs : List AV} {s : List (List AV)} {r : AV} {s' : List (List AV)} (e : atoiT xs s = some (r, s')) : ACalls Tryz.prog W0.heap.size W0 229 xs s r s' := by
  unfold atoiT at e
  split at e
  · rename_i l
    obtain ⟨hn, e⟩ := need_eq e
    have key : ∀ r0, some (r0, s) = some (r, s') → (∀ (w : World) (a : ByteArray), a.data.toList = l → Below W0.heap.size W0 w → Calls Tryz.prog 229 #[.string a] w fun e w' => ∃ v, e = .returned v ∧ AI.Told v r0 ∧ Below w.heap.size w w') → ACalls Tryz.prog W0.heap.size W0 229 [.str l] s r s' := by
      intro r0 e0 hc
      simp only [Option.some.injEq, Prod.mk.injEq] at e0
      obtain ⟨rfl, rfl⟩ := e0
      refine ACalls_ext fun w vs hsz hW hr => ?_
      obtain ⟨v, rfl, _⟩ := one_arg (B := 0) (T0 := fun _ => True) (μ0 := gh0) (w0 := w) (N := 1) (μ := gh0) (lx := fun _ => none) (w := w) (x := .nilp) (s := []) hsz
      obtain ⟨μ, h0⟩ := hr 0 (.str l) rfl
      obtain ⟨a, rfl, ha⟩ := rep_str (h0.resolve_right (by simp [isTup]))
      exact hc w a ha hW
    rcases hq : Lib.atoiAll l with v | _ | _
    · skip
      rw [hq] at e
      refine key _ e fun w a ha hW => ?_
      subst ha
      refine (Any.strconv_Atoi_ok lays_LaysC_n172 a (by simp at hn; omega) v hq w).mono ?_
      rintro e w' ⟨rfl, hw⟩
      refine ⟨_, rfl, AI.Told.intNil _, ?_⟩
      rcases hw with rfl | ⟨t, rfl⟩
      · exact Below.refl _ _
      · exact Go.Joins.below_bytesWorld _ _ _ _ (Nat.le_refl _)
    · skip
      rw [hq] at e
      refine key _ e fun w a ha hW => ?_
      subst ha
      obtain ⟨ev, h1, h2⟩ := hl.esyn.below hW
      refine (Any.strconv_Atoi_syntax lays_LaysC_n172 a (by simpa using hn) hq ev w h1 h2).mono ?_
      rintro e w' ⟨N, rfl, _, _, hb⟩
      exact ⟨_, rfl, AI.Told.intErr _ _ _, hb⟩
    · skip
      rw [hq] at e
      refine key _ e fun w a ha hW => ?_
      subst ha
      obtain ⟨ev, h1, h2⟩ := hl.eran.below hW
      refine (Any.strconv_Atoi_range lays_LaysC_n172 a (by simpa using hn) hq ev w h1 h2).mono ?_
      rintro e w' ⟨N, rfl, _, _, hb⟩
      exact ⟨_, rfl, AI.Told.intErr _ _ _, hb⟩
  · cases e
noncomputable def lastIndexT : List AV → List (List AV) → Option (AV × List (List AV))
  | [.str l, .str m], s => need (l.length < 4611686018427387904) (some (.int .i64 (Lib.lastIndex l m), s))
  | _, _ => none
theorem lastIndex_ok {W0 : World} {xs : List AV} {s : List (List AV)} {r : AV} {s' : List (List AV)} (e : lastIndexT xs s = some (r, s')) : ACalls Tryz.prog W0.heap.size W0 167 xs s r s' := by
  unfold lastIndexT at e
  split at e
  · rename_i l m
    obtain ⟨hn, e⟩ := need_eq e
    simp only [Option.some.injEq, Prod.mk.injEq] at e
    obtain ⟨rfl, rfl⟩ := e
    refine ACalls_ext fun w vs hsz hW hr => ?_
    obtain ⟨u, v, rfl⟩ := two_args (vs := vs) hsz
    obtain ⟨μ, h0⟩ := hr 0 (.str l) rfl
    obtain ⟨μ', h1⟩ := hr 1 (.str m) rfl
    obtain ⟨a, rfl, rfl⟩ := rep_str (h0.resolve_right (by simp [isTup]))
    obtain ⟨b, rfl, rfl⟩ := rep_str (h1.resolve_right (by simp [isTup]))
    refine (Any.strings_LastIndex lays_Lays_n148 a b (by simpa using hn) w).mono ?_
    rintro e w' ⟨rfl, rfl⟩
    exact ⟨_, rfl, AI.Told.int _ _, Below.refl _ _⟩
  · cases e
/-- parts that hang on no memory -/
theorem told_tup {vs : List Value} {cs : List AV} (hl : vs.length = cs.length) (h : ∀ (j : Nat) (c : AV), cs[j]? = some c → scal c = true ∧ ∀ (B : Nat) (μ : Gh) (w : World), Rep B μ w ((vs.toArray).getD j undef) c) : AI.Told (.tuple vs.toArray) (.tup cs) := by
  refine ⟨fun B μ w => ⟨.tup _ _ (by simpa using hl) fun j c hc => (h j c hc).2 B μ w, fun j c hc => ?_⟩, fun j => ?_, by simp⟩
  · have := (h j c hc).1
    cases c <;> first | trivial | (simp [scal] at this; done)
  · cases j with
    | none => rfl
    | some j =>
      simp only [ownV]
      cases hc : cs[j]? with
      | none => rfl
      | some c =>
        have := (h j c hc).1
        simp only [Option.bind_some]
        cases c <;> first | (simp [scal] at this; done) | (simp [exBlk]; done) | rfl
theorem rep_list (l : List UInt8) (B : Nat) (μ : Gh) (w : World) : Rep B μ w (.string ⟨l.toArray⟩) (.str l) := by
  have := Rep.str (B := B) (μ := μ) (w := w) ⟨l.toArray⟩; simpa using this
theorem told_ssb (a b : List UInt8) (c : Bool) : AI.Told (.tuple #[.string ⟨a.toArray⟩, .string ⟨b.toArray⟩, .bool c]) (.tup [.str a, .str b, .bool c]) :=
  told_tup (vs := [.string ⟨a.toArray⟩, .string ⟨b.toArray⟩, .bool c]) rfl fun j x hx => by
    match j, hx with
    | 0, hx => simp at hx; subst hx; exact ⟨rfl, rep_list a⟩
    | 1, hx => simp at hx; subst hx; exact ⟨rfl, rep_list b⟩
    | 2, hx => simp at hx; subst hx; exact ⟨rfl, fun _ _ _ => .bool _⟩
    | j + 3, hx => simp at hx
theorem told_sb (a : List UInt8) (c : Bool) : AI.Told (.tuple #[.string ⟨a.toArray⟩, .bool c]) (.tup [.str a, .bool c]) :=
  told_tup (vs := [.string ⟨a.toArray⟩, .bool c]) rfl fun j x hx => by
    match j, hx with
    | 0, hx => simp at hx; subst hx; exact ⟨rfl, rep_list a⟩
    | 1, hx => simp at hx; subst hx; exact ⟨rfl, fun _ _ _ => .bool _⟩
    | j + 2, hx => simp at hx
/-- a function of two texts, by a contract -/
theorem ACalls_two {B : Nat} {W0 : World} {f : FuncId} {l m : List UInt8} {s : List (List AV)} {r : AV}
    (h : ∀ (w : World) (a b : ByteArray), a.data.toList = l → b.data.toList = m → Below B W0 w → Calls Tryz.prog f #[.string a, .string b] w fun e w' => ∃ v, e = .returned v ∧ AI.Told v r ∧ Below w.heap.size w w') : ACalls Tryz.prog B W0 f [.str l, .str m] s r s := by
  refine ACalls_ext fun w vs hsz hW hr => ?_
  obtain ⟨u, v, rfl⟩ := two_args (vs := vs) hsz
  obtain ⟨μ, h0⟩ := hr 0 (.str l) rfl
  obtain ⟨μ', h1⟩ := hr 1 (.str m) rfl
  obtain ⟨a, rfl, ha⟩ := rep_str (h0.resolve_right (by simp [isTup]))
  obtain ⟨b, rfl, hb⟩ := rep_str (h1.resolve_right (by simp [isTup]))
  exact h w a b ha hb hW
theorem bsz (m : List UInt8) : (⟨m.toArray⟩ : ByteArray).size = m.length := by show m.toArray.size = m.length; simp
theorem blw (w : World) (n : Nat) : Below w.heap.size w (w.drewN n) := ⟨rfl, rfl, rfl, Nat.le_refl _, fun _ _ => rfl⟩
noncomputable def cutT : List AV → List (List AV) → Option (AV × List (List AV))
  | [.str l, .str m], s => need (l.length < 4294967281) (some (.tup [.str (Lib.cut l m).1, .str (Lib.cut l m).2.1, .bool (Lib.cut l m).2.2], s))
  | _, _ => none
theorem cut_ok {W0 : World} (hl : LaidAll W0) {xs : List AV} {s : List (List AV)} {r : AV} {s' : List (List AV)} (e : cutT xs s = some (r, s')) : ACalls Tryz.prog W0.heap.size W0 89 xs s r s' := by
  unfold cutT at e
  split at e
  · rename_i l m
    obtain ⟨hn, e⟩ := need_eq e
    simp only [Option.some.injEq, Prod.mk.injEq] at e
    obtain ⟨rfl, rfl⟩ := e
    refine ACalls_two fun w a b ha hb hW => ?_
    subst ha hb
    obtain ⟨k, hk⟩ := hl.max.below hW
    refine (Any.strings_Cut lays_Lays_n145 a b k w (by simpa using hn) hk).mono ?_
    rintro e w' ⟨rfl, n, rfl⟩
    exact ⟨_, rfl, told_ssb _ _ _, blw w n⟩
  · cases e
noncomputable def splitT : List AV → List (List AV) → Option (AV × List (List AV))
  | [.str l, .str m], s => need (l.length < 4294967281 ∧ 1 ≤ m.length) (some (.sl (.ex 9 1) ((Lib.split l m).map .str), s))
  | _, _ => none
theorem split_ok {W0 : World} (hl : LaidAll W0) {xs : List AV} {s : List (List AV)} {r : AV} {s' : List (List AV)} (e : splitT xs s = some (r, s')) : ACalls Tryz.prog W0.heap.size W0 52 xs s r s' := by
  unfold splitT at e
  split at e
  · rename_i l m
    obtain ⟨⟨hn, h1⟩, e⟩ := need_eq e
    simp only [Option.some.injEq, Prod.mk.injEq] at e
    obtain ⟨rfl, rfl⟩ := e
    have hlen : (Lib.split l m).length = Lib.countB ⟨l.toArray⟩ ⟨m.toArray⟩ + 1 := by
      have e1 := Lib.splitB_all ⟨m.toArray⟩ (by rw [bsz]; exact h1) 0 _ ⟨l.toArray⟩ rfl
      have e2 := Lib.splitB_data ⟨m.toArray⟩ 0 (Lib.countB ⟨l.toArray⟩ ⟨m.toArray⟩) ⟨l.toArray⟩
      rw [← e1, ← List.length_map (f := fun x : ByteArray => x.data.toList), e2]
      rfl
    have hle := Lib.countB_le ⟨m.toArray⟩ (by rw [bsz]; exact h1) l.length ⟨l.toArray⟩ (by rw [bsz]; omega)
    refine ACalls_strs (by rw [bsz] at hle; rw [hlen]; unfold maxLen; omega) fun w vs hsz hW hr => ?_
    obtain ⟨u, v, rfl⟩ := two_args (vs := vs) hsz
    obtain ⟨μ, h0⟩ := hr 0 (.str l) rfl
    obtain ⟨μ', h1'⟩ := hr 1 (.str m) rfl
    obtain ⟨a, rfl, rfl⟩ := rep_str (h0.resolve_right (by simp [isTup]))
    obtain ⟨b, rfl, rfl⟩ := rep_str (h1'.resolve_right (by simp [isTup]))
    obtain ⟨k, hk⟩ := hl.max.below hW
    refine (Any.strings_Split lays_Lays_n146 (by kernel_rfl) a b k w (by simpa using hn) hk (by simpa using h1)).mono ?_
    rintro e w' ⟨rfl, rfl⟩
    have e2 := Lib.splitB_data b 0 (Lib.countB a b) a
    have e3 : Lib.split a.data.toList b.data.toList = (Lib.splitB b 0 (Lib.countB a b) a).map (·.data.toList) := by rw [e2]; rfl
    refine ⟨by rw [hlen], ?_⟩
    congr 2
    rw [e3, List.map_map]
    apply congrArg
    apply List.map_congr_left
    intro x _
    rfl
  · cases e
noncomputable def cutPrefixT : List AV → List (List AV) → Option (AV × List (List AV))
  | [.str l, .str m], s => some (.tup [.str (Lib.trimPrefix l m), .bool (Lib.hasPrefix l m)], s)
  | _, _ => none
theorem cutPrefix_ok {W0 : World} {xs : List AV} {s : List (List AV)} {r : AV} {s' : List (List AV)} (e : cutPrefixT xs s = some (r, s')) : ACalls Tryz.prog W0.heap.size W0 63 xs s r s' := by
  unfold cutPrefixT at e
  split at e
  · simp only [Option.some.injEq, Prod.mk.injEq] at e
    obtain ⟨rfl, rfl⟩ := e
    refine ACalls_two fun w a b ha hb hW => ?_
    subst ha hb
    refine (Any.strings_CutPrefix lays_Lays_n103 a b w).mono ?_
    rintro e w' ⟨rfl, rfl⟩
    exact ⟨_, rfl, told_sb _ _, Below.refl _ _⟩
  · cases e
noncomputable def cutSuffixT : List AV → List (List AV) → Option (AV × List (List AV))
  | [.str l, .str m], s => need (l.length ≤ 9223372036854775807) (some (.tup [.str (Lib.trimSuffix l m), .bool (Lib.hasSuffix l m)], s))
  | _, _ => none
theorem cutSuffix_ok {W0 : World} {xs : List AV} {s : List (List AV)} {r : AV} {s' : List (List AV)} (e : cutSuffixT xs s = some (r, s')) : ACalls Tryz.prog W0.heap.size W0 54 xs s r s' := by
  unfold cutSuffixT at e
  split at e
  · obtain ⟨hn, e⟩ := need_eq e
    simp only [Option.some.injEq, Prod.mk.injEq] at e
    obtain ⟨rfl, rfl⟩ := e
    refine ACalls_two fun w a b ha hb hW => ?_
    subst ha hb
    refine (Any.strings_CutSuffix lays_Lays_n104 a b w (by simpa using hn)).mono ?_
    rintro e w' ⟨rfl, rfl⟩
    exact ⟨_, rfl, told_sb _ _, Below.refl _ _⟩
  · cases e
noncomputable def hasPrefixT : List AV → List (List AV) → Option (AV × List (List AV))
  | [.str l, .str m], s => some (.bool (Lib.hasPrefix l m), s)
  | _, _ => none
theorem hasPrefix_ok {W0 : World} {xs : List AV} {s : List (List AV)} {r : AV} {s' : List (List AV)} (e : hasPrefixT xs s = some (r, s')) : ACalls Tryz.prog W0.heap.size W0 118 xs s r s' := by
  unfold hasPrefixT at e
  split at e
  · simp only [Option.some.injEq, Prod.mk.injEq] at e
    obtain ⟨rfl, rfl⟩ := e
    refine ACalls_two fun w a b ha hb hW => ?_
    subst ha hb
    refine (Any.strings_HasPrefix lays_Lays_n99 a b w).mono ?_
    rintro e w' ⟨rfl, rfl⟩
    exact ⟨_, rfl, AI.Told.bool _, Below.refl _ _⟩
  · cases e
noncomputable def trimT : List AV → List (List AV) → Option (AV × List (List AV))
  | [.str l, .str [c]], s => need (l.length ≤ 9223372036854775807 ∧ c.toNat < 128) (some (.str (Lib.trimB l c), s))
  | _, _ => none
theorem trim_ok {W0 : World} {xs : List AV} {s : List (List AV)} {r : AV} {s' : List (List AV)} (e : trimT xs s = some (r, s')) : ACalls Tryz.prog W0.heap.size W0 70 xs s r s' := by
  unfold trimT at e
  split at e
  · rename_i l c
    obtain ⟨⟨hn, hc⟩, e⟩ := need_eq e
    simp only [Option.some.injEq, Prod.mk.injEq] at e
    obtain ⟨rfl, rfl⟩ := e
    refine ACalls_two fun w a b ha hb hW => ?_
    subst ha
    obtain rfl : b = ⟨#[c]⟩ := by obtain ⟨⟨b⟩⟩ := b; simp at hb; subst hb; rfl
    refine (Any.strings_Trim_one lays_Lays_n160 a c hc w (by simpa using hn)).mono ?_
    rintro e w' ⟨rfl, hw⟩
    refine ⟨_, rfl, AI.Told.str _, ?_⟩
    rcases hw with rfl | rfl
    · exact Below.refl _ _
    · exact blw w 1
  · cases e
noncomputable def containsT : List AV → List (List AV) → Option (AV × List (List AV))
  | [.str l, .str m], s => need (l.length < 4294967281) (some (.bool (Lib.contains l m), s))
  | _, _ => none
theorem contains_ok {W0 : World} (hl : LaidAll W0) {xs : List AV} {s : List (List AV)} {r : AV} {s' : List (List AV)} (e : containsT xs s = some (r, s')) : ACalls Tryz.prog W0.heap.size W0 73 xs s r s' := by
  unfold containsT at e
  split at e
  · obtain ⟨hn, e⟩ := need_eq e
    simp only [Option.some.injEq, Prod.mk.injEq] at e
    obtain ⟨rfl, rfl⟩ := e
    refine ACalls_two fun w a b ha hb hW => ?_
    subst ha hb
    obtain ⟨k, hk⟩ := hl.max.below hW
    refine (Any.strings_Contains lays_Lays_n144 a b k w (by simpa using hn) hk).mono ?_
    rintro e w' ⟨rfl, rfl⟩
    exact ⟨_, rfl, AI.Told.bool _, Below.refl _ _⟩
  · cases e
def strOf : AV → Option (List UInt8)
  | .str l => some l
  | _ => none
def strsOf : List AV → Option (List (List UInt8))
  | [] => some []
  | x :: r => bnd (strOf x) fun a => bnd (strsOf r) fun l => some (a :: l)
@[simp] theorem strsOf_map (l : List (List UInt8)) : strsOf (l.map .str) = some l := by
  induction l with
  | nil => rfl
  | cons x r ih => simp only [List.map_cons, strsOf, strOf, bnd_some, ih]
theorem strsOf_eq {xs : List AV} : ∀ {l : List (List UInt8)}, strsOf xs = some l → xs = l.map .str := by
  induction xs with
  | nil => intro l h; simp only [strsOf, Option.some.injEq] at h; subst h; rfl
  | cons x r ih =>
    intro l h
    simp only [strsOf] at h
    obtain ⟨a, ha, h⟩ := bnd_eq h
    obtain ⟨b, hb, h⟩ := bnd_eq h
    simp only [Option.some.injEq] at h
    subst h
    cases x with
    | str y => simp only [strOf, Option.some.injEq] at ha; subst ha; rw [ih hb]; rfl
    | _ => cases ha
noncomputable def joinT : List AV → List (List AV) → Option (AV × List (List AV))
  | [.sl .sh xs, .str m], s => bnd (strsOf xs) fun ls => need (ls.length ≤ 140737488355328 ∧ (Lib.join ls m).length ≤ 140737488355328) (some (.str (Lib.join ls m), s))
  | _, _ => none
theorem join_ok {W0 : World} {xs : List AV} {s : List (List AV)} {r : AV} {s' : List (List AV)} (e : joinT xs s = some (r, s')) : ACalls Tryz.prog W0.heap.size W0 69 xs s r s' := by
  unfold joinT at e
  split at e
  · rename_i xs m
    obtain ⟨ls, hls, e⟩ := bnd_eq e
    obtain ⟨⟨hn1, hn2⟩, e⟩ := need_eq e
    simp only [Option.some.injEq, Prod.mk.injEq] at e
    obtain ⟨rfl, rfl⟩ := e
    obtain rfl := strsOf_eq hls
    refine ACalls_ext fun w vs hsz hW hr => ?_
    obtain ⟨u, v, rfl⟩ := two_args (vs := vs) hsz
    obtain ⟨μ, h0⟩ := hr 0 (.sl .sh (ls.map .str)) rfl
    obtain ⟨μ', h1⟩ := hr 1 (.str m) rfl
    obtain ⟨b, rfl, rfl⟩ := rep_str (h1.resolve_right (by simp [isTup]))
    have h0 := h0.resolve_right (by simp [isTup])
    have hu : (#[u, Value.string b] : Array Value).getD 0 undef = u := rfl
    rw [hu] at h0
    clear hu hr hsz
    generalize hxs : ls.map AV.str = xs at h0
    cases h0 with
    | slnil =>
      have : ls = [] := by simpa using hxs
      subst this
      refine (Any.strings_Join_none lays_Lays_n156 lays_Builder_Extra none 0 b w).mono ?_
      rintro e w' ⟨rfl, rfl⟩
      exact ⟨_, rfl, by simpa [Lib.join] using AI.Told.str [], Below.refl _ _⟩
    | sl0 a cap =>
      have : ls = [] := by simpa using hxs
      subst this
      refine (Any.strings_Join_none lays_Lays_n156 lays_Builder_Extra (some a) cap b w).mono ?_
      rintro e w' ⟨rfl, rfl⟩
      exact ⟨_, rfl, by simpa [Lib.join] using AI.Told.str [], Below.refl _ _⟩
    | sl blk off cap sz _ _ f ho hsz hc hm hu hcell hrep =>
      have hlen : xs.length = ls.length := by rw [← hxs, List.length_map]
      by_cases hne : ls = []
      · subst hne
        have : xs = [] := by simpa using hxs.symm
        subst this
        refine (Any.strings_Join_none lays_Lays_n156 lays_Builder_Extra _ cap b w).mono ?_
        rintro e w' ⟨rfl, rfl⟩
        exact ⟨_, rfl, by simpa [Lib.join] using AI.Told.str [], Below.refl _ _⟩
      have hs1 : sz = 1 := by
        cases hl : ls with
        | nil => exact absurd hl hne
        | cons x r =>
          have := (hu (.str x) (by rw [← hxs, hl]; simp)).1
          simpa [AV.cells] using this.symm
      subst hs1
      have hcells : ∀ (j : Nat) (x : List UInt8), ls[j]? = some x → w.cell? ⟨blk, off + j, none⟩ = some (.string ⟨x.toArray⟩) := by
        intro j x hx
        have hj : j < ls.length := (List.getElem?_eq_some_iff.1 hx).1
        have h1 := (hcell j (by omega)).1
        have h2 := hrep j 0 (.str x) (by rw [← hxs, List.getElem?_map, hx]; rfl)
        rw [Nat.mul_one, Nat.add_zero] at h2
        obtain ⟨a, ha, hax⟩ := rep_str h2
        rw [h1, ha, ← hax]
      have hblk : blk < w.heap.size := by
        have h0 : 0 < xs.length * 1 := by rw [hlen, Nat.mul_one]; exact List.length_pos_iff.2 hne
        exact World.block_lt_of_cell? w _ (hcell 0 h0).1
      clear e hls h0 hne h1
      rcases ls with _ | ⟨x, _ | ⟨y, r⟩⟩
      · have hx1 : xs.length = 0 := by rw [hlen]; rfl
        rw [hx1]
        refine (Any.strings_Join_none lays_Lays_n156 lays_Builder_Extra _ cap b w).mono ?_
        rintro e w' ⟨rfl, rfl⟩
        exact ⟨_, rfl, by simpa [Lib.join] using AI.Told.str [], Below.refl _ _⟩
      · have := hcells 0 x rfl
        have hx1 : xs.length = 1 := by rw [hlen]; rfl
        rw [hx1]
        refine (Any.strings_Join_one lays_Lays_n156 lays_Builder_Extra blk off cap ⟨x.toArray⟩ b w this).mono ?_
        rintro e w' ⟨rfl, rfl⟩
        exact ⟨_, rfl, by rw [Lib.join_one]; exact AI.Told.str x, Below.refl _ _⟩
      · have e1 : ((x :: y :: r).map fun l : List UInt8 => (⟨l.toArray⟩ : ByteArray)).map (·.data.toList) = x :: y :: r := by
          rw [List.map_map]; conv => rhs; rw [← List.map_id (x :: y :: r)]
          apply List.map_congr_left; intro z _; simp
        have hx1 : xs.length = ((x :: y :: r).map fun l : List UInt8 => (⟨l.toArray⟩ : ByteArray)).length := by rw [hlen]; simp
        rw [hx1]
        refine (Any.strings_Join_many lays_Lays_n156 lays_Builder_Extra blk off cap ((x :: y :: r).map fun l : List UInt8 => (⟨l.toArray⟩ : ByteArray)) b w ?_ hblk (by simp) (by rw [List.length_map]; exact hn1) (by rw [← hx1]; exact hc) (by rw [e1]; exact hn2)).mono ?_
        · intro j z hz
          rw [List.getElem?_map] at hz
          cases hq : (x :: y :: r)[j]? with
          | none => rw [hq] at hz; cases hz
          | some l => rw [hq] at hz; injection hz with hz; subst hz; exact hcells j l hq
        · rintro e w' ⟨rfl, hb⟩
          refine ⟨_, rfl, ?_, hb⟩
          rw [e1]; exact AI.Told.str _
  · cases e
/-- what a predicate without captures says of a rune -/
noncomputable def predOf (H : FuncId → Hint) (g : FuncId) (x : Nat) : Option Bool :=
  match EV Tryz.prog H (fun _ => none) g [.int .i32 x] [] with
  | some (.bool b, _) => some b
  | _ => none
noncomputable def containsFuncT (H : FuncId → Hint) : List AV → List (List AV) → Option (AV × List (List AV))
  | [.str l, .fn g []], s => need (AI.base g = g ∧ ∀ x, x ≤ 1114111 → (predOf H g x).isSome = true) (some (.bool (decide (0 ≤ Lib.idxFunc (fun x => (predOf H g x).getD false) true ⟨l.toArray⟩)), s))
  | _, _ => none
theorem containsFunc_ok {W0 : World} {H : FuncId → Hint} {xs : List AV} {s : List (List AV)} {r : AV} {s' : List (List AV)} (e : containsFuncT H xs s = some (r, s')) : ACalls Tryz.prog W0.heap.size W0 71 xs s r s' := by
  unfold containsFuncT at e
  split at e
  · rename_i l g
    obtain ⟨⟨hb, hp⟩, e⟩ := need_eq e
    simp only [Option.some.injEq, Prod.mk.injEq] at e
    obtain ⟨rfl, rfl⟩ := e
    refine ACalls_ext fun w vs hsz hW hr => ?_
    obtain ⟨u, v, rfl⟩ := two_args (vs := vs) hsz
    obtain ⟨μ, h0⟩ := hr 0 (.str l) rfl
    obtain ⟨μ', h1⟩ := hr 1 (.fn g []) rfl
    obtain ⟨a, rfl, rfl⟩ := rep_str (h0.resolve_right (by simp [isTup]))
    have h1 := h1.resolve_right (by simp [isTup])
    have hv : (#[Value.string a, v] : Array Value).getD 1 undef = v := rfl
    rw [hv] at h1
    cases h1 with
    | fn _ vs _ hl _ _ =>
      have hvs : vs = #[] := by apply Array.eq_empty_of_size_eq_zero; simpa using hl
      subst hvs
      have hev : ∀ x : Nat, x ≤ 1114111 → ∃ b s', EV Tryz.prog H (fun _ => none) g [.int .i32 x] [] = some (.bool b, s') ∧ (predOf H g x).getD false = b := by
        intro x hx
        have := hp x hx
        unfold predOf at this ⊢
        cases hq : EV Tryz.prog H (fun _ => none) g [.int .i32 x] [] with
        | none => rw [hq] at this; cases this
        | some r =>
          obtain ⟨v, s'⟩ := r
          rw [hq] at this
          cases v with
          | bool b => exact ⟨b, s', rfl, rfl⟩
          | _ => cases this
      have hent : AI.Enters Tryz.prog g := by
        obtain ⟨b, s', h, _⟩ := hev 0 (by decide)
        have := (EV_sound (B := 0) (W0 := w) (P := Tryz.prog) (H := H) (T := fun _ => none) (fun _ _ h => by cases h) (fun _ _ => draw_sound (by kernel_rfl)) _ _ _ _ _ h).1
        rw [hb] at this; exact this
      refine (Any.strings_ContainsFunc_grows lays_LaysGw_n17 g #[] (fun args w => run_callFunc hent args w) (fun x => (predOf H g x).getD false) a w (fun W x hx hbel => ?_)).mono ?_
      · obtain ⟨b, s', h, hq⟩ := hev x hx
        show Calls _ _ _ _ fun e w' => e = .returned (.bool ((predOf H g x).getD false)) ∧ _
        rw [hq]
        refine (Go.AI.top (vs := #[.int .i32 x]) (by kernel_rfl) hb (T := fun _ => none) (fun _ _ h => by cases h) (by rfl) (fun j c hc => ?_) h).mono fun e w' hh => hh
        match j, hc with
        | 0, hc => simp at hc; subst hc; exact ⟨.int _ _, rfl, rfl⟩
        | j + 1, hc => simp at hc
      · rintro e w' ⟨rfl, hbw⟩
        exact ⟨_, rfl, AI.Told.bool _, hbw⟩
  · cases e
end Go.Proofs.Tryz.Ai
end
section
namespace Go.Proofs.Tryz.Ai
open Go Go.AI Go.Proofs
@[simp] theorem size3 : sizeA Tryz.prog 3 = some 1 := by kernel_rfl
@[simp] theorem bytes3 : bytesA Tryz.prog 3 = some 8 := by kernel_rfl
@[simp] theorem agg3 : isAggA Tryz.prog 3 = some false := by kernel_rfl
@[simp] theorem elem3 : elemA Tryz.prog 3 = none := by kernel_rfl
@[simp] theorem zero3 : zeroA Tryz.prog 3 = some (.int .i64 0) := by kernel_rfl
@[simp] theorem und3 : Tryz.prog.underlying 3 = some (.int .i64) := by kernel_rfl
@[simp] theorem size4 : sizeA Tryz.prog 4 = some 1 := by kernel_rfl
@[simp] theorem bytes4 : bytesA Tryz.prog 4 = some 1 := by kernel_rfl
@[simp] theorem agg4 : isAggA Tryz.prog 4 = some false := by kernel_rfl
@[simp] theorem elem4 : elemA Tryz.prog 4 = none := by kernel_rfl
@[simp] theorem zero4 : zeroA Tryz.prog 4 = some (.bool false) := by kernel_rfl
@[simp] theorem und4 : Tryz.prog.underlying 4 = some .bool := by kernel_rfl
@[simp] theorem size5 : sizeA Tryz.prog 5 = some 1 := by kernel_rfl
@[simp] theorem bytes5 : bytesA Tryz.prog 5 = some 1 := by kernel_rfl
@[simp] theorem agg5 : isAggA Tryz.prog 5 = some false := by kernel_rfl
@[simp] theorem elem5 : elemA Tryz.prog 5 = none := by kernel_rfl
@[simp] theorem zero5 : zeroA Tryz.prog 5 = some (.int .u8 0) := by kernel_rfl
@[simp] theorem und5 : Tryz.prog.underlying 5 = some (.int .u8) := by kernel_rfl
@[simp] theorem size9 : sizeA Tryz.prog 9 = some 1 := by kernel_rfl
@[simp] theorem bytes9 : bytesA Tryz.prog 9 = some 16 := by kernel_rfl
@[simp] theorem agg9 : isAggA Tryz.prog 9 = some false := by kernel_rfl
@[simp] theorem elem9 : elemA Tryz.prog 9 = none := by kernel_rfl
@[simp] theorem zero9 : zeroA Tryz.prog 9 = some (.str []) := by kernel_rfl
@[simp] theorem und9 : Tryz.prog.underlying 9 = some .string := by kernel_rfl
@[simp] theorem size22 : sizeA Tryz.prog 22 = some 1 := by kernel_rfl
@[simp] theorem bytes22 : bytesA Tryz.prog 22 = some 24 := by kernel_rfl
@[simp] theorem agg22 : isAggA Tryz.prog 22 = some false := by kernel_rfl
@[simp] theorem elem22 : elemA Tryz.prog 22 = some 42 := by kernel_rfl
@[simp] theorem zero22 : zeroA Tryz.prog 22 = some (.sl .nil []) := by kernel_rfl
@[simp] theorem und22 : Tryz.prog.underlying 22 = some (.slice 42) := by kernel_rfl
@[simp] theorem size24 : sizeA Tryz.prog 24 = some 2 := by kernel_rfl
@[simp] theorem bytes24 : bytesA Tryz.prog 24 = some 32 := by kernel_rfl
@[simp] theorem agg24 : isAggA Tryz.prog 24 = some true := by kernel_rfl
@[simp] theorem elem24 : elemA Tryz.prog 24 = none := by kernel_rfl
@[simp] theorem zero24 : zeroA Tryz.prog 24 = some (.agg [(.str []), (.str [])]) := by kernel_rfl
@[simp] theorem bpl24 : buildPl Tryz.prog 24 = some (fun i => [(0, 1), (1, 1)][i]?) := by kernel_rfl
@[simp] theorem size25 : sizeA Tryz.prog 25 = some 1 := by kernel_rfl
@[simp] theorem bytes25 : bytesA Tryz.prog 25 = some 24 := by kernel_rfl
@[simp] theorem agg25 : isAggA Tryz.prog 25 = some false := by kernel_rfl
@[simp] theorem elem25 : elemA Tryz.prog 25 = some 24 := by kernel_rfl
@[simp] theorem zero25 : zeroA Tryz.prog 25 = some (.sl .nil []) := by kernel_rfl
@[simp] theorem und25 : Tryz.prog.underlying 25 = some (.slice 24) := by kernel_rfl
@[simp] theorem size28 : sizeA Tryz.prog 28 = some 1 := by kernel_rfl
@[simp] theorem bytes28 : bytesA Tryz.prog 28 = some 8 := by kernel_rfl
@[simp] theorem agg28 : isAggA Tryz.prog 28 = some false := by kernel_rfl
@[simp] theorem elem28 : elemA Tryz.prog 28 = none := by kernel_rfl
@[simp] theorem zero28 : zeroA Tryz.prog 28 = some (.int .i64 0) := by kernel_rfl
@[simp] theorem und28 : Tryz.prog.underlying 28 = some (.int .i64) := by kernel_rfl
@[simp] theorem size31 : sizeA Tryz.prog 31 = some 1 := by kernel_rfl
@[simp] theorem bytes31 : bytesA Tryz.prog 31 = some 24 := by kernel_rfl
@[simp] theorem agg31 : isAggA Tryz.prog 31 = some false := by kernel_rfl
@[simp] theorem elem31 : elemA Tryz.prog 31 = some 82 := by kernel_rfl
@[simp] theorem zero31 : zeroA Tryz.prog 31 = some (.sl .nil []) := by kernel_rfl
@[simp] theorem und31 : Tryz.prog.underlying 31 = some (.slice 82) := by kernel_rfl
@[simp] theorem size42 : sizeA Tryz.prog 42 = some 4 := by kernel_rfl
@[simp] theorem bytes42 : bytesA Tryz.prog 42 = some 56 := by kernel_rfl
@[simp] theorem agg42 : isAggA Tryz.prog 42 = some true := by kernel_rfl
@[simp] theorem elem42 : elemA Tryz.prog 42 = none := by kernel_rfl
@[simp] theorem zero42 : zeroA Tryz.prog 42 = some (.agg [(.str []), (.str []), (.int .i64 0), (.str [])]) := by kernel_rfl
@[simp] theorem bpl42 : buildPl Tryz.prog 42 = some (fun i => [(0, 2), (2, 1), (3, 1)][i]?) := by kernel_rfl
@[simp] theorem size56 : sizeA Tryz.prog 56 = some 1 := by kernel_rfl
@[simp] theorem bytes56 : bytesA Tryz.prog 56 = some 24 := by kernel_rfl
@[simp] theorem agg56 : isAggA Tryz.prog 56 = some false := by kernel_rfl
@[simp] theorem elem56 : elemA Tryz.prog 56 = some 9 := by kernel_rfl
@[simp] theorem zero56 : zeroA Tryz.prog 56 = some (.sl .nil []) := by kernel_rfl
@[simp] theorem und56 : Tryz.prog.underlying 56 = some (.slice 9) := by kernel_rfl
@[simp] theorem size80 : sizeA Tryz.prog 80 = some 1 := by kernel_rfl
@[simp] theorem bytes80 : bytesA Tryz.prog 80 = some 24 := by kernel_rfl
@[simp] theorem agg80 : isAggA Tryz.prog 80 = some false := by kernel_rfl
@[simp] theorem elem80 : elemA Tryz.prog 80 = some 22 := by kernel_rfl
@[simp] theorem zero80 : zeroA Tryz.prog 80 = some (.sl .nil []) := by kernel_rfl
@[simp] theorem und80 : Tryz.prog.underlying 80 = some (.slice 22) := by kernel_rfl
@[simp] theorem size82 : sizeA Tryz.prog 82 = some 4 := by kernel_rfl
@[simp] theorem bytes82 : bytesA Tryz.prog 82 = some 56 := by kernel_rfl
@[simp] theorem agg82 : isAggA Tryz.prog 82 = some true := by kernel_rfl
@[simp] theorem elem82 : elemA Tryz.prog 82 = none := by kernel_rfl
@[simp] theorem zero82 : zeroA Tryz.prog 82 = some (.agg [(.str []), (.str []), (.int .i64 0), (.str [])]) := by kernel_rfl
@[simp] theorem bpl82 : buildPl Tryz.prog 82 = some (fun i => [(0, 2), (2, 1), (3, 1)][i]?) := by kernel_rfl
@[simp] theorem size85 : sizeA Tryz.prog 85 = some 1 := by kernel_rfl
@[simp] theorem bytes85 : bytesA Tryz.prog 85 = some 8 := by kernel_rfl
@[simp] theorem agg85 : isAggA Tryz.prog 85 = some false := by kernel_rfl
@[simp] theorem elem85 : elemA Tryz.prog 85 = none := by kernel_rfl
@[simp] theorem zero85 : zeroA Tryz.prog 85 = some .nilf := by kernel_rfl
@[simp] theorem size92 : sizeA Tryz.prog 92 = some 1 := by kernel_rfl
@[simp] theorem bytes92 : bytesA Tryz.prog 92 = some 8 := by kernel_rfl
@[simp] theorem agg92 : isAggA Tryz.prog 92 = some false := by kernel_rfl
@[simp] theorem elem92 : elemA Tryz.prog 92 = none := by kernel_rfl
@[simp] theorem zero92 : zeroA Tryz.prog 92 = some .nilf := by kernel_rfl
@[simp] theorem size103 : sizeA Tryz.prog 103 = some 1 := by kernel_rfl
@[simp] theorem bytes103 : bytesA Tryz.prog 103 = some 16 := by kernel_rfl
@[simp] theorem agg103 : isAggA Tryz.prog 103 = some false := by kernel_rfl
@[simp] theorem elem103 : elemA Tryz.prog 103 = none := by kernel_rfl
@[simp] theorem zero103 : zeroA Tryz.prog 103 = some .nili := by kernel_rfl
@[simp] theorem size111 : sizeA Tryz.prog 111 = some 1 := by kernel_rfl
@[simp] theorem bytes111 : bytesA Tryz.prog 111 = some 8 := by kernel_rfl
@[simp] theorem agg111 : isAggA Tryz.prog 111 = some false := by kernel_rfl
@[simp] theorem elem111 : elemA Tryz.prog 111 = none := by kernel_rfl
@[simp] theorem zero111 : zeroA Tryz.prog 111 = some .nilf := by kernel_rfl
@[simp] theorem size132 : sizeA Tryz.prog 132 = some 1 := by kernel_rfl
@[simp] theorem bytes132 : bytesA Tryz.prog 132 = some 8 := by kernel_rfl
@[simp] theorem agg132 : isAggA Tryz.prog 132 = some false := by kernel_rfl
@[simp] theorem elem132 : elemA Tryz.prog 132 = none := by kernel_rfl
@[simp] theorem zero132 : zeroA Tryz.prog 132 = some .nilf := by kernel_rfl
@[simp] theorem size142 : sizeA Tryz.prog 142 = some 1 := by kernel_rfl
@[simp] theorem bytes142 : bytesA Tryz.prog 142 = some 24 := by kernel_rfl
@[simp] theorem agg142 : isAggA Tryz.prog 142 = some false := by kernel_rfl
@[simp] theorem elem142 : elemA Tryz.prog 142 = some 28 := by kernel_rfl
@[simp] theorem zero142 : zeroA Tryz.prog 142 = some (.sl .nil []) := by kernel_rfl
@[simp] theorem und142 : Tryz.prog.underlying 142 = some (.slice 28) := by kernel_rfl
@[simp] theorem size146 : sizeA Tryz.prog 146 = some 1 := by kernel_rfl
@[simp] theorem bytes146 : bytesA Tryz.prog 146 = some 8 := by kernel_rfl
@[simp] theorem agg146 : isAggA Tryz.prog 146 = some false := by kernel_rfl
@[simp] theorem elem146 : elemA Tryz.prog 146 = none := by kernel_rfl
@[simp] theorem zero146 : zeroA Tryz.prog 146 = some (.int .u64 0) := by kernel_rfl
@[simp] theorem und146 : Tryz.prog.underlying 146 = some (.int .u64) := by kernel_rfl
@[simp] theorem size177 : sizeA Tryz.prog 177 = some 1 := by kernel_rfl
@[simp] theorem bytes177 : bytesA Tryz.prog 177 = some 8 := by kernel_rfl
@[simp] theorem agg177 : isAggA Tryz.prog 177 = some false := by kernel_rfl
@[simp] theorem elem177 : elemA Tryz.prog 177 = none := by kernel_rfl
@[simp] theorem zero177 : zeroA Tryz.prog 177 = some .nilf := by kernel_rfl
@[simp] theorem size193 : sizeA Tryz.prog 193 = some 4 := by kernel_rfl
@[simp] theorem bytes193 : bytesA Tryz.prog 193 = some 40 := by kernel_rfl
@[simp] theorem agg193 : isAggA Tryz.prog 193 = some true := by kernel_rfl
@[simp] theorem elem193 : elemA Tryz.prog 193 = none := by kernel_rfl
@[simp] theorem zero193 : zeroA Tryz.prog 193 = some (.agg [(.int .i64 0), (.int .i64 0), (.int .i64 0), (.str [])]) := by kernel_rfl
@[simp] theorem bpl193 : buildPl Tryz.prog 193 = some (fun i => [(0, 1), (1, 1), (2, 1), (3, 1)][i]?) := by kernel_rfl
@[simp] theorem size209 : sizeA Tryz.prog 209 = some 1 := by kernel_rfl
@[simp] theorem bytes209 : bytesA Tryz.prog 209 = some 24 := by kernel_rfl
@[simp] theorem agg209 : isAggA Tryz.prog 209 = some false := by kernel_rfl
@[simp] theorem elem209 : elemA Tryz.prog 209 = some 3 := by kernel_rfl
@[simp] theorem zero209 : zeroA Tryz.prog 209 = some (.sl .nil []) := by kernel_rfl
@[simp] theorem und209 : Tryz.prog.underlying 209 = some (.slice 3) := by kernel_rfl
@[simp] theorem field24x0 : fieldA Tryz.prog 24 0 = some (0, 9) := by kernel_rfl
@[simp] theorem field24x1 : fieldA Tryz.prog 24 1 = some (1, 9) := by kernel_rfl
@[simp] theorem field42x0 : fieldA Tryz.prog 42 0 = some (0, 24) := by kernel_rfl
@[simp] theorem field42x1 : fieldA Tryz.prog 42 1 = some (2, 3) := by kernel_rfl
@[simp] theorem field42x2 : fieldA Tryz.prog 42 2 = some (3, 9) := by kernel_rfl
@[simp] theorem field82x0 : fieldA Tryz.prog 82 0 = some (0, 24) := by kernel_rfl
@[simp] theorem field82x1 : fieldA Tryz.prog 82 1 = some (2, 3) := by kernel_rfl
@[simp] theorem field82x2 : fieldA Tryz.prog 82 2 = some (3, 9) := by kernel_rfl
@[simp] theorem field193x0 : fieldA Tryz.prog 193 0 = some (0, 3) := by kernel_rfl
@[simp] theorem field193x1 : fieldA Tryz.prog 193 1 = some (1, 3) := by kernel_rfl
@[simp] theorem field193x2 : fieldA Tryz.prog 193 2 = some (2, 3) := by kernel_rfl
@[simp] theorem field193x3 : fieldA Tryz.prog 193 3 = some (3, 9) := by kernel_rfl
@[simp] theorem func85 : isFuncT Tryz.prog 85 = true := by kernel_rfl
@[simp] theorem func92 : isFuncT Tryz.prog 92 = true := by kernel_rfl
@[simp] theorem iface103 : isIface Tryz.prog 103 = true := by kernel_rfl
@[simp] theorem func111 : isFuncT Tryz.prog 111 = true := by kernel_rfl
@[simp] theorem func132 : isFuncT Tryz.prog 132 = true := by kernel_rfl
@[simp] theorem func177 : isFuncT Tryz.prog 177 = true := by kernel_rfl
@[simp] theorem eqs24 : eqShape Tryz.prog 24 = some [.str, .str] := by kernel_rfl
def h3 : Hint where
  vars := [0, 1, 2, 3, 4, 7, 10, 11, 12, 13, 14, 15, 16, 17, 18, 19, 20, 21, 22, 23, 24, 25, 26]
  conds := [50, 98, 108]
  steal := [30, 36, 37, 40, 45, 51, 52, 57, 58, 61, 65, 66, 72, 87, 91, 99, 109, 115, 116, 117, 119, 122, 123, 124, 127, 128, 129, 132, 133, 135, 136, 137]
  live := [(14, [0, 13, 14, 16, 17, 18, 19, 20, 21, 22, 23, 24, 25]), (18, [0, 14, 16, 17, 18, 19, 20, 21, 22, 23, 24, 26])]
  roots := [(7, 7)]
  rets := true
  glob := []
  sw := [75, 78]
  msd := []
  alt := [(55, 1), (83, 1)]
  fz := 0
  gc := true
  wk := false
  rt := false
  inv := []
  mv := []
@[simp] theorem h3_vars : h3.vars = [0, 1, 2, 3, 4, 7, 10, 11, 12, 13, 14, 15, 16, 17, 18, 19, 20, 21, 22, 23, 24, 25, 26] := rfl
@[simp] theorem h3_conds : h3.conds = [50, 98, 108] := rfl
@[simp] theorem h3_steal : h3.steal = [30, 36, 37, 40, 45, 51, 52, 57, 58, 61, 65, 66, 72, 87, 91, 99, 109, 115, 116, 117, 119, 122, 123, 124, 127, 128, 129, 132, 133, 135, 136, 137] := rfl
@[simp] theorem h3_live : h3.live = [(14, [0, 13, 14, 16, 17, 18, 19, 20, 21, 22, 23, 24, 25]), (18, [0, 14, 16, 17, 18, 19, 20, 21, 22, 23, 24, 26])] := rfl
@[simp] theorem h3_roots : h3.roots = [(7, 7)] := rfl
@[simp] theorem h3_rets : h3.rets = true := rfl
@[simp] theorem h3_glob : h3.glob = [] := rfl
@[simp] theorem h3_sw : h3.sw = [75, 78] := rfl
@[simp] theorem h3_msd : h3.msd = [] := rfl
@[simp] theorem h3_alt : h3.alt = [(55, 1), (83, 1)] := rfl
@[simp] theorem h3_fz : h3.fz = 0 := rfl
@[simp] theorem h3_gc : h3.gc = true := rfl
@[simp] theorem h3_wk : h3.wk = false := rfl
@[simp] theorem h3_rt : h3.rt = false := rfl
@[simp] theorem h3_inv : h3.inv = [] := rfl
@[simp] theorem h3_mv : h3.mv = [] := rfl
def h4 : Hint where
  vars := [0, 1, 4, 5, 6, 7, 8, 9, 10, 11, 12, 13, 14, 15, 16, 17, 18, 19, 20, 21, 22]
  conds := [35, 57, 60, 72, 100, 104, 166, 176]
  steal := [26, 32, 33, 36, 37, 42, 43, 48, 50, 52, 54, 61, 64, 65, 73, 90, 92, 93, 105, 139, 143, 144, 145, 146, 155, 156, 157, 158, 167, 172, 177, 179, 187, 190, 191, 195, 197, 199]
  live := [(12, [0, 1, 7, 11]), (18, [0, 1, 7, 14]), (27, [7, 19, 20, 21, 22])]
  roots := []
  rets := true
  glob := []
  sw := [87, 119, 134]
  msd := []
  alt := []
  fz := 0
  gc := false
  wk := false
  rt := false
  inv := []
  mv := []
@[simp] theorem h4_vars : h4.vars = [0, 1, 4, 5, 6, 7, 8, 9, 10, 11, 12, 13, 14, 15, 16, 17, 18, 19, 20, 21, 22] := rfl
@[simp] theorem h4_conds : h4.conds = [35, 57, 60, 72, 100, 104, 166, 176] := rfl
@[simp] theorem h4_steal : h4.steal = [26, 32, 33, 36, 37, 42, 43, 48, 50, 52, 54, 61, 64, 65, 73, 90, 92, 93, 105, 139, 143, 144, 145, 146, 155, 156, 157, 158, 167, 172, 177, 179, 187, 190, 191, 195, 197, 199] := rfl
@[simp] theorem h4_live : h4.live = [(12, [0, 1, 7, 11]), (18, [0, 1, 7, 14]), (27, [7, 19, 20, 21, 22])] := rfl
@[simp] theorem h4_roots : h4.roots = [] := rfl
@[simp] theorem h4_rets : h4.rets = true := rfl
@[simp] theorem h4_glob : h4.glob = [] := rfl
@[simp] theorem h4_sw : h4.sw = [87, 119, 134] := rfl
@[simp] theorem h4_msd : h4.msd = [] := rfl
@[simp] theorem h4_alt : h4.alt = [] := rfl
@[simp] theorem h4_fz : h4.fz = 0 := rfl
@[simp] theorem h4_gc : h4.gc = false := rfl
@[simp] theorem h4_wk : h4.wk = false := rfl
@[simp] theorem h4_rt : h4.rt = false := rfl
@[simp] theorem h4_inv : h4.inv = [] := rfl
@[simp] theorem h4_mv : h4.mv = [] := rfl
def h11 : Hint where
  vars := [0, 1, 2, 3, 5, 6]
  conds := []
  steal := [7, 11, 12, 16, 18, 22, 27, 28, 34, 35, 38, 39, 43, 44, 47, 48, 52, 55]
  live := []
  roots := []
  rets := true
  glob := []
  sw := []
  msd := []
  alt := []
  fz := 0
  gc := false
  wk := false
  rt := false
  inv := []
  mv := []
@[simp] theorem h11_vars : h11.vars = [0, 1, 2, 3, 5, 6] := rfl
@[simp] theorem h11_conds : h11.conds = [] := rfl
@[simp] theorem h11_steal : h11.steal = [7, 11, 12, 16, 18, 22, 27, 28, 34, 35, 38, 39, 43, 44, 47, 48, 52, 55] := rfl
@[simp] theorem h11_live : h11.live = [] := rfl
@[simp] theorem h11_roots : h11.roots = [] := rfl
@[simp] theorem h11_rets : h11.rets = true := rfl
@[simp] theorem h11_glob : h11.glob = [] := rfl
@[simp] theorem h11_sw : h11.sw = [] := rfl
@[simp] theorem h11_msd : h11.msd = [] := rfl
@[simp] theorem h11_alt : h11.alt = [] := rfl
@[simp] theorem h11_fz : h11.fz = 0 := rfl
@[simp] theorem h11_gc : h11.gc = false := rfl
@[simp] theorem h11_wk : h11.wk = false := rfl
@[simp] theorem h11_rt : h11.rt = false := rfl
@[simp] theorem h11_inv : h11.inv = [] := rfl
@[simp] theorem h11_mv : h11.mv = [] := rfl
def h12 : Hint where
  vars := [0, 2, 3, 4]
  conds := [12]
  steal := [9, 13, 43, 46, 47]
  live := [(3, [0, 3, 4])]
  roots := []
  rets := true
  glob := []
  sw := []
  msd := []
  alt := []
  fz := 0
  gc := false
  wk := false
  rt := false
  inv := []
  mv := []
@[simp] theorem h12_vars : h12.vars = [0, 2, 3, 4] := rfl
@[simp] theorem h12_conds : h12.conds = [12] := rfl
@[simp] theorem h12_steal : h12.steal = [9, 13, 43, 46, 47] := rfl
@[simp] theorem h12_live : h12.live = [(3, [0, 3, 4])] := rfl
@[simp] theorem h12_roots : h12.roots = [] := rfl
@[simp] theorem h12_rets : h12.rets = true := rfl
@[simp] theorem h12_glob : h12.glob = [] := rfl
@[simp] theorem h12_sw : h12.sw = [] := rfl
@[simp] theorem h12_msd : h12.msd = [] := rfl
@[simp] theorem h12_alt : h12.alt = [] := rfl
@[simp] theorem h12_fz : h12.fz = 0 := rfl
@[simp] theorem h12_gc : h12.gc = false := rfl
@[simp] theorem h12_wk : h12.wk = false := rfl
@[simp] theorem h12_rt : h12.rt = false := rfl
@[simp] theorem h12_inv : h12.inv = [] := rfl
@[simp] theorem h12_mv : h12.mv = [] := rfl
def h13 : Hint where
  vars := [0, 1, 4, 5, 6, 8, 10, 11, 12, 15, 16, 17, 21, 22, 23]
  conds := [18, 24, 42, 44]
  steal := [13, 14, 21, 27, 35, 37, 38, 43, 45, 51]
  live := [(3, [6, 15, 16, 17]), (6, [6, 15, 16, 17, 21, 22, 23])]
  roots := []
  rets := true
  glob := []
  sw := []
  msd := []
  alt := []
  fz := 0
  gc := false
  wk := false
  rt := false
  inv := []
  mv := []
@[simp] theorem h13_vars : h13.vars = [0, 1, 4, 5, 6, 8, 10, 11, 12, 15, 16, 17, 21, 22, 23] := rfl
@[simp] theorem h13_conds : h13.conds = [18, 24, 42, 44] := rfl
@[simp] theorem h13_steal : h13.steal = [13, 14, 21, 27, 35, 37, 38, 43, 45, 51] := rfl
@[simp] theorem h13_live : h13.live = [(3, [6, 15, 16, 17]), (6, [6, 15, 16, 17, 21, 22, 23])] := rfl
@[simp] theorem h13_roots : h13.roots = [] := rfl
@[simp] theorem h13_rets : h13.rets = true := rfl
@[simp] theorem h13_glob : h13.glob = [] := rfl
@[simp] theorem h13_sw : h13.sw = [] := rfl
@[simp] theorem h13_msd : h13.msd = [] := rfl
@[simp] theorem h13_alt : h13.alt = [] := rfl
@[simp] theorem h13_fz : h13.fz = 0 := rfl
@[simp] theorem h13_gc : h13.gc = false := rfl
@[simp] theorem h13_wk : h13.wk = false := rfl
@[simp] theorem h13_rt : h13.rt = false := rfl
@[simp] theorem h13_inv : h13.inv = [] := rfl
@[simp] theorem h13_mv : h13.mv = [] := rfl
def h14 : Hint where
  vars := [0, 1, 4, 5, 6, 7, 8, 9, 10]
  conds := [19, 25, 51, 62, 64]
  steal := [12, 14, 20, 26, 63, 65, 72]
  live := [(4, [6, 7, 8]), (8, [6, 7, 8, 9, 10])]
  roots := []
  rets := true
  glob := []
  sw := []
  msd := []
  alt := []
  fz := 0
  gc := false
  wk := false
  rt := false
  inv := []
  mv := []
@[simp] theorem h14_vars : h14.vars = [0, 1, 4, 5, 6, 7, 8, 9, 10] := rfl
@[simp] theorem h14_conds : h14.conds = [19, 25, 51, 62, 64] := rfl
@[simp] theorem h14_steal : h14.steal = [12, 14, 20, 26, 63, 65, 72] := rfl
@[simp] theorem h14_live : h14.live = [(4, [6, 7, 8]), (8, [6, 7, 8, 9, 10])] := rfl
@[simp] theorem h14_roots : h14.roots = [] := rfl
@[simp] theorem h14_rets : h14.rets = true := rfl
@[simp] theorem h14_glob : h14.glob = [] := rfl
@[simp] theorem h14_sw : h14.sw = [] := rfl
@[simp] theorem h14_msd : h14.msd = [] := rfl
@[simp] theorem h14_alt : h14.alt = [] := rfl
@[simp] theorem h14_fz : h14.fz = 0 := rfl
@[simp] theorem h14_gc : h14.gc = false := rfl
@[simp] theorem h14_wk : h14.wk = false := rfl
@[simp] theorem h14_rt : h14.rt = false := rfl
@[simp] theorem h14_inv : h14.inv = [] := rfl
@[simp] theorem h14_mv : h14.mv = [] := rfl
def h15 : Hint where
  vars := [0, 2, 3, 4]
  conds := [8]
  steal := [9, 11, 30]
  live := [(3, [0, 3, 4])]
  roots := []
  rets := true
  glob := []
  sw := []
  msd := []
  alt := []
  fz := 0
  gc := false
  wk := false
  rt := false
  inv := []
  mv := []
@[simp] theorem h15_vars : h15.vars = [0, 2, 3, 4] := rfl
@[simp] theorem h15_conds : h15.conds = [8] := rfl
@[simp] theorem h15_steal : h15.steal = [9, 11, 30] := rfl
@[simp] theorem h15_live : h15.live = [(3, [0, 3, 4])] := rfl
@[simp] theorem h15_roots : h15.roots = [] := rfl
@[simp] theorem h15_rets : h15.rets = true := rfl
@[simp] theorem h15_glob : h15.glob = [] := rfl
@[simp] theorem h15_sw : h15.sw = [] := rfl
@[simp] theorem h15_msd : h15.msd = [] := rfl
@[simp] theorem h15_alt : h15.alt = [] := rfl
@[simp] theorem h15_fz : h15.fz = 0 := rfl
@[simp] theorem h15_gc : h15.gc = false := rfl
@[simp] theorem h15_wk : h15.wk = false := rfl
@[simp] theorem h15_rt : h15.rt = false := rfl
@[simp] theorem h15_inv : h15.inv = [] := rfl
@[simp] theorem h15_mv : h15.mv = [] := rfl
def h16 : Hint where
  vars := [0, 1, 2, 4, 6, 7, 8]
  conds := [15]
  steal := [11, 16, 17]
  live := []
  roots := []
  rets := true
  glob := []
  sw := []
  msd := []
  alt := []
  fz := 0
  gc := true
  wk := false
  rt := false
  inv := []
  mv := []
@[simp] theorem h16_vars : h16.vars = [0, 1, 2, 4, 6, 7, 8] := rfl
@[simp] theorem h16_conds : h16.conds = [15] := rfl
@[simp] theorem h16_steal : h16.steal = [11, 16, 17] := rfl
@[simp] theorem h16_live : h16.live = [] := rfl
@[simp] theorem h16_roots : h16.roots = [] := rfl
@[simp] theorem h16_rets : h16.rets = true := rfl
@[simp] theorem h16_glob : h16.glob = [] := rfl
@[simp] theorem h16_sw : h16.sw = [] := rfl
@[simp] theorem h16_msd : h16.msd = [] := rfl
@[simp] theorem h16_alt : h16.alt = [] := rfl
@[simp] theorem h16_fz : h16.fz = 0 := rfl
@[simp] theorem h16_gc : h16.gc = true := rfl
@[simp] theorem h16_wk : h16.wk = false := rfl
@[simp] theorem h16_rt : h16.rt = false := rfl
@[simp] theorem h16_inv : h16.inv = [] := rfl
@[simp] theorem h16_mv : h16.mv = [] := rfl
def h17 : Hint where
  vars := [0, 1, 2, 4, 6, 7, 8]
  conds := [12, 30]
  steal := [13, 31, 32]
  live := [(2, [0, 2, 4, 8])]
  roots := [(4, 4)]
  rets := true
  glob := []
  sw := []
  msd := []
  alt := []
  fz := 0
  gc := false
  wk := false
  rt := false
  inv := []
  mv := []
@[simp] theorem h17_vars : h17.vars = [0, 1, 2, 4, 6, 7, 8] := rfl
@[simp] theorem h17_conds : h17.conds = [12, 30] := rfl
@[simp] theorem h17_steal : h17.steal = [13, 31, 32] := rfl
@[simp] theorem h17_live : h17.live = [(2, [0, 2, 4, 8])] := rfl
@[simp] theorem h17_roots : h17.roots = [(4, 4)] := rfl
@[simp] theorem h17_rets : h17.rets = true := rfl
@[simp] theorem h17_glob : h17.glob = [] := rfl
@[simp] theorem h17_sw : h17.sw = [] := rfl
@[simp] theorem h17_msd : h17.msd = [] := rfl
@[simp] theorem h17_alt : h17.alt = [] := rfl
@[simp] theorem h17_fz : h17.fz = 0 := rfl
@[simp] theorem h17_gc : h17.gc = false := rfl
@[simp] theorem h17_wk : h17.wk = false := rfl
@[simp] theorem h17_rt : h17.rt = false := rfl
@[simp] theorem h17_inv : h17.inv = [] := rfl
@[simp] theorem h17_mv : h17.mv = [] := rfl
def h18 : Hint where
  vars := [0, 1, 4, 5, 7, 8, 9, 10]
  conds := [11, 17]
  steal := [8, 18, 23]
  live := [(3, [1, 5, 8, 9, 10])]
  roots := []
  rets := true
  glob := []
  sw := []
  msd := []
  alt := []
  fz := 0
  gc := false
  wk := false
  rt := false
  inv := []
  mv := []
@[simp] theorem h18_vars : h18.vars = [0, 1, 4, 5, 7, 8, 9, 10] := rfl
@[simp] theorem h18_conds : h18.conds = [11, 17] := rfl
@[simp] theorem h18_steal : h18.steal = [8, 18, 23] := rfl
@[simp] theorem h18_live : h18.live = [(3, [1, 5, 8, 9, 10])] := rfl
@[simp] theorem h18_roots : h18.roots = [] := rfl
@[simp] theorem h18_rets : h18.rets = true := rfl
@[simp] theorem h18_glob : h18.glob = [] := rfl
@[simp] theorem h18_sw : h18.sw = [] := rfl
@[simp] theorem h18_msd : h18.msd = [] := rfl
@[simp] theorem h18_alt : h18.alt = [] := rfl
@[simp] theorem h18_fz : h18.fz = 0 := rfl
@[simp] theorem h18_gc : h18.gc = false := rfl
@[simp] theorem h18_wk : h18.wk = false := rfl
@[simp] theorem h18_rt : h18.rt = false := rfl
@[simp] theorem h18_inv : h18.inv = [] := rfl
@[simp] theorem h18_mv : h18.mv = [] := rfl
def h19 : Hint where
  vars := [0, 1, 4, 5]
  conds := [10, 14, 53]
  steal := [15]
  live := [(4, [0, 1, 5])]
  roots := []
  rets := true
  glob := []
  sw := []
  msd := []
  alt := []
  fz := 0
  gc := false
  wk := false
  rt := false
  inv := []
  mv := []
@[simp] theorem h19_vars : h19.vars = [0, 1, 4, 5] := rfl
@[simp] theorem h19_conds : h19.conds = [10, 14, 53] := rfl
@[simp] theorem h19_steal : h19.steal = [15] := rfl
@[simp] theorem h19_live : h19.live = [(4, [0, 1, 5])] := rfl
@[simp] theorem h19_roots : h19.roots = [] := rfl
@[simp] theorem h19_rets : h19.rets = true := rfl
@[simp] theorem h19_glob : h19.glob = [] := rfl
@[simp] theorem h19_sw : h19.sw = [] := rfl
@[simp] theorem h19_msd : h19.msd = [] := rfl
@[simp] theorem h19_alt : h19.alt = [] := rfl
@[simp] theorem h19_fz : h19.fz = 0 := rfl
@[simp] theorem h19_gc : h19.gc = false := rfl
@[simp] theorem h19_wk : h19.wk = false := rfl
@[simp] theorem h19_rt : h19.rt = false := rfl
@[simp] theorem h19_inv : h19.inv = [] := rfl
@[simp] theorem h19_mv : h19.mv = [] := rfl
def h20 : Hint where
  vars := [0, 1, 4, 5, 6, 7]
  conds := [11, 17, 29]
  steal := [12, 18, 30, 37]
  live := [(3, [0, 1, 5, 6]), (6, [0, 1, 5, 6, 7])]
  roots := []
  rets := true
  glob := []
  sw := []
  msd := []
  alt := []
  fz := 0
  gc := false
  wk := false
  rt := false
  inv := []
  mv := []
@[simp] theorem h20_vars : h20.vars = [0, 1, 4, 5, 6, 7] := rfl
@[simp] theorem h20_conds : h20.conds = [11, 17, 29] := rfl
@[simp] theorem h20_steal : h20.steal = [12, 18, 30, 37] := rfl
@[simp] theorem h20_live : h20.live = [(3, [0, 1, 5, 6]), (6, [0, 1, 5, 6, 7])] := rfl
@[simp] theorem h20_roots : h20.roots = [] := rfl
@[simp] theorem h20_rets : h20.rets = true := rfl
@[simp] theorem h20_glob : h20.glob = [] := rfl
@[simp] theorem h20_sw : h20.sw = [] := rfl
@[simp] theorem h20_msd : h20.msd = [] := rfl
@[simp] theorem h20_alt : h20.alt = [] := rfl
@[simp] theorem h20_fz : h20.fz = 0 := rfl
@[simp] theorem h20_gc : h20.gc = false := rfl
@[simp] theorem h20_wk : h20.wk = false := rfl
@[simp] theorem h20_rt : h20.rt = false := rfl
@[simp] theorem h20_inv : h20.inv = [] := rfl
@[simp] theorem h20_mv : h20.mv = [] := rfl
def h21 : Hint where
  vars := [0, 2]
  conds := []
  steal := [3]
  live := []
  roots := []
  rets := true
  glob := []
  sw := []
  msd := []
  alt := []
  fz := 0
  gc := false
  wk := false
  rt := false
  inv := []
  mv := []
@[simp] theorem h21_vars : h21.vars = [0, 2] := rfl
@[simp] theorem h21_conds : h21.conds = [] := rfl
@[simp] theorem h21_steal : h21.steal = [3] := rfl
@[simp] theorem h21_live : h21.live = [] := rfl
@[simp] theorem h21_roots : h21.roots = [] := rfl
@[simp] theorem h21_rets : h21.rets = true := rfl
@[simp] theorem h21_glob : h21.glob = [] := rfl
@[simp] theorem h21_sw : h21.sw = [] := rfl
@[simp] theorem h21_msd : h21.msd = [] := rfl
@[simp] theorem h21_alt : h21.alt = [] := rfl
@[simp] theorem h21_fz : h21.fz = 0 := rfl
@[simp] theorem h21_gc : h21.gc = false := rfl
@[simp] theorem h21_wk : h21.wk = false := rfl
@[simp] theorem h21_rt : h21.rt = false := rfl
@[simp] theorem h21_inv : h21.inv = [] := rfl
@[simp] theorem h21_mv : h21.mv = [] := rfl
def h22 : Hint where
  vars := [0, 1, 4]
  conds := []
  steal := [5, 6]
  live := []
  roots := []
  rets := true
  glob := []
  sw := []
  msd := []
  alt := []
  fz := 0
  gc := false
  wk := false
  rt := false
  inv := []
  mv := []
@[simp] theorem h22_vars : h22.vars = [0, 1, 4] := rfl
@[simp] theorem h22_conds : h22.conds = [] := rfl
@[simp] theorem h22_steal : h22.steal = [5, 6] := rfl
@[simp] theorem h22_live : h22.live = [] := rfl
@[simp] theorem h22_roots : h22.roots = [] := rfl
@[simp] theorem h22_rets : h22.rets = true := rfl
@[simp] theorem h22_glob : h22.glob = [] := rfl
@[simp] theorem h22_sw : h22.sw = [] := rfl
@[simp] theorem h22_msd : h22.msd = [] := rfl
@[simp] theorem h22_alt : h22.alt = [] := rfl
@[simp] theorem h22_fz : h22.fz = 0 := rfl
@[simp] theorem h22_gc : h22.gc = false := rfl
@[simp] theorem h22_wk : h22.wk = false := rfl
@[simp] theorem h22_rt : h22.rt = false := rfl
@[simp] theorem h22_inv : h22.inv = [] := rfl
@[simp] theorem h22_mv : h22.mv = [] := rfl
def h23 : Hint where
  vars := [0, 2, 3, 4, 5, 6, 7]
  conds := [15]
  steal := [8, 9, 13, 16, 17, 18]
  live := []
  roots := []
  rets := true
  glob := []
  sw := []
  msd := []
  alt := []
  fz := 0
  gc := false
  wk := false
  rt := false
  inv := []
  mv := []
@[simp] theorem h23_vars : h23.vars = [0, 2, 3, 4, 5, 6, 7] := rfl
@[simp] theorem h23_conds : h23.conds = [15] := rfl
@[simp] theorem h23_steal : h23.steal = [8, 9, 13, 16, 17, 18] := rfl
@[simp] theorem h23_live : h23.live = [] := rfl
@[simp] theorem h23_roots : h23.roots = [] := rfl
@[simp] theorem h23_rets : h23.rets = true := rfl
@[simp] theorem h23_glob : h23.glob = [] := rfl
@[simp] theorem h23_sw : h23.sw = [] := rfl
@[simp] theorem h23_msd : h23.msd = [] := rfl
@[simp] theorem h23_alt : h23.alt = [] := rfl
@[simp] theorem h23_fz : h23.fz = 0 := rfl
@[simp] theorem h23_gc : h23.gc = false := rfl
@[simp] theorem h23_wk : h23.wk = false := rfl
@[simp] theorem h23_rt : h23.rt = false := rfl
@[simp] theorem h23_inv : h23.inv = [] := rfl
@[simp] theorem h23_mv : h23.mv = [] := rfl
def h27 : Hint where
  vars := [0, 2, 3, 4, 5, 6, 7]
  conds := [28, 32, 40]
  steal := [8, 9, 12, 13, 14, 17, 18, 20, 21, 24, 33, 41]
  live := [(7, [3, 6, 7])]
  roots := []
  rets := true
  glob := []
  sw := []
  msd := []
  alt := []
  fz := 0
  gc := false
  wk := false
  rt := false
  inv := []
  mv := []
@[simp] theorem h27_vars : h27.vars = [0, 2, 3, 4, 5, 6, 7] := rfl
@[simp] theorem h27_conds : h27.conds = [28, 32, 40] := rfl
@[simp] theorem h27_steal : h27.steal = [8, 9, 12, 13, 14, 17, 18, 20, 21, 24, 33, 41] := rfl
@[simp] theorem h27_live : h27.live = [(7, [3, 6, 7])] := rfl
@[simp] theorem h27_roots : h27.roots = [] := rfl
@[simp] theorem h27_rets : h27.rets = true := rfl
@[simp] theorem h27_glob : h27.glob = [] := rfl
@[simp] theorem h27_sw : h27.sw = [] := rfl
@[simp] theorem h27_msd : h27.msd = [] := rfl
@[simp] theorem h27_alt : h27.alt = [] := rfl
@[simp] theorem h27_fz : h27.fz = 0 := rfl
@[simp] theorem h27_gc : h27.gc = false := rfl
@[simp] theorem h27_wk : h27.wk = false := rfl
@[simp] theorem h27_rt : h27.rt = false := rfl
@[simp] theorem h27_inv : h27.inv = [] := rfl
@[simp] theorem h27_mv : h27.mv = [] := rfl
def h31 : Hint where
  vars := [0, 1, 4, 5, 6, 7, 8]
  conds := [12, 13, 28, 58]
  steal := [18, 26, 54, 56, 61, 67, 72, 73]
  live := [(3, [0, 1, 5, 6, 7, 8])]
  roots := []
  rets := true
  glob := []
  sw := []
  msd := []
  alt := []
  fz := 0
  gc := false
  wk := false
  rt := false
  inv := []
  mv := []
@[simp] theorem h31_vars : h31.vars = [0, 1, 4, 5, 6, 7, 8] := rfl
@[simp] theorem h31_conds : h31.conds = [12, 13, 28, 58] := rfl
@[simp] theorem h31_steal : h31.steal = [18, 26, 54, 56, 61, 67, 72, 73] := rfl
@[simp] theorem h31_live : h31.live = [(3, [0, 1, 5, 6, 7, 8])] := rfl
@[simp] theorem h31_roots : h31.roots = [] := rfl
@[simp] theorem h31_rets : h31.rets = true := rfl
@[simp] theorem h31_glob : h31.glob = [] := rfl
@[simp] theorem h31_sw : h31.sw = [] := rfl
@[simp] theorem h31_msd : h31.msd = [] := rfl
@[simp] theorem h31_alt : h31.alt = [] := rfl
@[simp] theorem h31_fz : h31.fz = 0 := rfl
@[simp] theorem h31_gc : h31.gc = false := rfl
@[simp] theorem h31_wk : h31.wk = false := rfl
@[simp] theorem h31_rt : h31.rt = false := rfl
@[simp] theorem h31_inv : h31.inv = [] := rfl
@[simp] theorem h31_mv : h31.mv = [] := rfl
def h37 : Hint where
  vars := [0, 1, 4, 5, 6, 7]
  conds := [11, 24]
  steal := [12, 18, 25, 27, 34]
  live := [(4, [0, 1, 5, 6, 7])]
  roots := []
  rets := true
  glob := []
  sw := []
  msd := []
  alt := []
  fz := 0
  gc := false
  wk := false
  rt := false
  inv := []
  mv := []
@[simp] theorem h37_vars : h37.vars = [0, 1, 4, 5, 6, 7] := rfl
@[simp] theorem h37_conds : h37.conds = [11, 24] := rfl
@[simp] theorem h37_steal : h37.steal = [12, 18, 25, 27, 34] := rfl
@[simp] theorem h37_live : h37.live = [(4, [0, 1, 5, 6, 7])] := rfl
@[simp] theorem h37_roots : h37.roots = [] := rfl
@[simp] theorem h37_rets : h37.rets = true := rfl
@[simp] theorem h37_glob : h37.glob = [] := rfl
@[simp] theorem h37_sw : h37.sw = [] := rfl
@[simp] theorem h37_msd : h37.msd = [] := rfl
@[simp] theorem h37_alt : h37.alt = [] := rfl
@[simp] theorem h37_fz : h37.fz = 0 := rfl
@[simp] theorem h37_gc : h37.gc = false := rfl
@[simp] theorem h37_wk : h37.wk = false := rfl
@[simp] theorem h37_rt : h37.rt = false := rfl
@[simp] theorem h37_inv : h37.inv = [] := rfl
@[simp] theorem h37_mv : h37.mv = [] := rfl
def h45 : Hint where
  vars := [0, 2, 3]
  conds := []
  steal := [7, 11]
  live := []
  roots := []
  rets := true
  glob := [8]
  sw := []
  msd := [8]
  alt := []
  fz := 2
  gc := true
  wk := false
  rt := false
  inv := []
  mv := []
@[simp] theorem h45_vars : h45.vars = [0, 2, 3] := rfl
@[simp] theorem h45_conds : h45.conds = [] := rfl
@[simp] theorem h45_steal : h45.steal = [7, 11] := rfl
@[simp] theorem h45_live : h45.live = [] := rfl
@[simp] theorem h45_roots : h45.roots = [] := rfl
@[simp] theorem h45_rets : h45.rets = true := rfl
@[simp] theorem h45_glob : h45.glob = [8] := rfl
@[simp] theorem h45_sw : h45.sw = [] := rfl
@[simp] theorem h45_msd : h45.msd = [8] := rfl
@[simp] theorem h45_alt : h45.alt = [] := rfl
@[simp] theorem h45_fz : h45.fz = 2 := rfl
@[simp] theorem h45_gc : h45.gc = true := rfl
@[simp] theorem h45_wk : h45.wk = false := rfl
@[simp] theorem h45_rt : h45.rt = false := rfl
@[simp] theorem h45_inv : h45.inv = [] := rfl
@[simp] theorem h45_mv : h45.mv = [] := rfl
def h46 : Hint where
  vars := [0, 2, 3, 4, 5, 6]
  conds := [10, 28]
  steal := [11, 29, 36, 43, 44, 45, 48]
  live := [(3, [0, 3, 4]), (6, [0, 3, 4, 5])]
  roots := []
  rets := true
  glob := []
  sw := [27]
  msd := []
  alt := []
  fz := 0
  gc := false
  wk := false
  rt := false
  inv := []
  mv := []
@[simp] theorem h46_vars : h46.vars = [0, 2, 3, 4, 5, 6] := rfl
@[simp] theorem h46_conds : h46.conds = [10, 28] := rfl
@[simp] theorem h46_steal : h46.steal = [11, 29, 36, 43, 44, 45, 48] := rfl
@[simp] theorem h46_live : h46.live = [(3, [0, 3, 4]), (6, [0, 3, 4, 5])] := rfl
@[simp] theorem h46_roots : h46.roots = [] := rfl
@[simp] theorem h46_rets : h46.rets = true := rfl
@[simp] theorem h46_glob : h46.glob = [] := rfl
@[simp] theorem h46_sw : h46.sw = [27] := rfl
@[simp] theorem h46_msd : h46.msd = [] := rfl
@[simp] theorem h46_alt : h46.alt = [] := rfl
@[simp] theorem h46_fz : h46.fz = 0 := rfl
@[simp] theorem h46_gc : h46.gc = false := rfl
@[simp] theorem h46_wk : h46.wk = false := rfl
@[simp] theorem h46_rt : h46.rt = false := rfl
@[simp] theorem h46_inv : h46.inv = [] := rfl
@[simp] theorem h46_mv : h46.mv = [] := rfl
def h47 : Hint where
  vars := [0, 1, 4, 5, 7, 8]
  conds := [9, 16]
  steal := [17]
  live := [(2, [0, 1, 7, 8])]
  roots := []
  rets := true
  glob := []
  sw := []
  msd := []
  alt := []
  fz := 0
  gc := true
  wk := false
  rt := false
  inv := []
  mv := []
@[simp] theorem h47_vars : h47.vars = [0, 1, 4, 5, 7, 8] := rfl
@[simp] theorem h47_conds : h47.conds = [9, 16] := rfl
@[simp] theorem h47_steal : h47.steal = [17] := rfl
@[simp] theorem h47_live : h47.live = [(2, [0, 1, 7, 8])] := rfl
@[simp] theorem h47_roots : h47.roots = [] := rfl
@[simp] theorem h47_rets : h47.rets = true := rfl
@[simp] theorem h47_glob : h47.glob = [] := rfl
@[simp] theorem h47_sw : h47.sw = [] := rfl
@[simp] theorem h47_msd : h47.msd = [] := rfl
@[simp] theorem h47_alt : h47.alt = [] := rfl
@[simp] theorem h47_fz : h47.fz = 0 := rfl
@[simp] theorem h47_gc : h47.gc = true := rfl
@[simp] theorem h47_wk : h47.wk = false := rfl
@[simp] theorem h47_rt : h47.rt = false := rfl
@[simp] theorem h47_inv : h47.inv = [] := rfl
@[simp] theorem h47_mv : h47.mv = [] := rfl
def h48 : Hint where
  vars := [0, 1, 2, 3, 4]
  conds := []
  steal := []
  live := []
  roots := []
  rets := true
  glob := [2, 3]
  sw := []
  msd := []
  alt := []
  fz := 0
  gc := false
  wk := false
  rt := false
  inv := []
  mv := []
@[simp] theorem h48_vars : h48.vars = [0, 1, 2, 3, 4] := rfl
@[simp] theorem h48_conds : h48.conds = [] := rfl
@[simp] theorem h48_steal : h48.steal = [] := rfl
@[simp] theorem h48_live : h48.live = [] := rfl
@[simp] theorem h48_roots : h48.roots = [] := rfl
@[simp] theorem h48_rets : h48.rets = true := rfl
@[simp] theorem h48_glob : h48.glob = [2, 3] := rfl
@[simp] theorem h48_sw : h48.sw = [] := rfl
@[simp] theorem h48_msd : h48.msd = [] := rfl
@[simp] theorem h48_alt : h48.alt = [] := rfl
@[simp] theorem h48_fz : h48.fz = 0 := rfl
@[simp] theorem h48_gc : h48.gc = false := rfl
@[simp] theorem h48_wk : h48.wk = false := rfl
@[simp] theorem h48_rt : h48.rt = false := rfl
@[simp] theorem h48_inv : h48.inv = [] := rfl
@[simp] theorem h48_mv : h48.mv = [] := rfl
def h49 : Hint where
  vars := [0, 1, 3, 4]
  conds := []
  steal := [5]
  live := []
  roots := []
  rets := true
  glob := []
  sw := []
  msd := []
  alt := []
  fz := 0
  gc := false
  wk := false
  rt := false
  inv := []
  mv := []
@[simp] theorem h49_vars : h49.vars = [0, 1, 3, 4] := rfl
@[simp] theorem h49_conds : h49.conds = [] := rfl
@[simp] theorem h49_steal : h49.steal = [5] := rfl
@[simp] theorem h49_live : h49.live = [] := rfl
@[simp] theorem h49_roots : h49.roots = [] := rfl
@[simp] theorem h49_rets : h49.rets = true := rfl
@[simp] theorem h49_glob : h49.glob = [] := rfl
@[simp] theorem h49_sw : h49.sw = [] := rfl
@[simp] theorem h49_msd : h49.msd = [] := rfl
@[simp] theorem h49_alt : h49.alt = [] := rfl
@[simp] theorem h49_fz : h49.fz = 0 := rfl
@[simp] theorem h49_gc : h49.gc = false := rfl
@[simp] theorem h49_wk : h49.wk = false := rfl
@[simp] theorem h49_rt : h49.rt = false := rfl
@[simp] theorem h49_inv : h49.inv = [] := rfl
@[simp] theorem h49_mv : h49.mv = [] := rfl
def h50 : Hint where
  vars := [0, 1, 4, 5, 6, 7, 8, 9, 10, 11, 12, 13, 14]
  conds := [17, 20, 43]
  steal := [18, 21, 22, 26, 27, 29, 31, 32, 34, 35, 36, 37, 44, 45, 46, 47, 48]
  live := [(6, [1, 7, 8, 9])]
  roots := []
  rets := true
  glob := []
  sw := []
  msd := []
  alt := []
  fz := 0
  gc := true
  wk := false
  rt := false
  inv := []
  mv := [(33, 0)]
@[simp] theorem h50_vars : h50.vars = [0, 1, 4, 5, 6, 7, 8, 9, 10, 11, 12, 13, 14] := rfl
@[simp] theorem h50_conds : h50.conds = [17, 20, 43] := rfl
@[simp] theorem h50_steal : h50.steal = [18, 21, 22, 26, 27, 29, 31, 32, 34, 35, 36, 37, 44, 45, 46, 47, 48] := rfl
@[simp] theorem h50_live : h50.live = [(6, [1, 7, 8, 9])] := rfl
@[simp] theorem h50_roots : h50.roots = [] := rfl
@[simp] theorem h50_rets : h50.rets = true := rfl
@[simp] theorem h50_glob : h50.glob = [] := rfl
@[simp] theorem h50_sw : h50.sw = [] := rfl
@[simp] theorem h50_msd : h50.msd = [] := rfl
@[simp] theorem h50_alt : h50.alt = [] := rfl
@[simp] theorem h50_fz : h50.fz = 0 := rfl
@[simp] theorem h50_gc : h50.gc = true := rfl
@[simp] theorem h50_wk : h50.wk = false := rfl
@[simp] theorem h50_rt : h50.rt = false := rfl
@[simp] theorem h50_inv : h50.inv = [] := rfl
@[simp] theorem h50_mv : h50.mv = [(33, 0)] := rfl
def h51 : Hint where
  vars := [0, 1, 4, 5, 6, 7, 8, 9]
  conds := [18, 35]
  steal := [10, 15, 19, 25, 35, 37]
  live := []
  roots := [(9, 9)]
  rets := true
  glob := []
  sw := [43]
  msd := []
  alt := []
  fz := 0
  gc := false
  wk := false
  rt := true
  inv := []
  mv := []
@[simp] theorem h51_vars : h51.vars = [0, 1, 4, 5, 6, 7, 8, 9] := rfl
@[simp] theorem h51_conds : h51.conds = [18, 35] := rfl
@[simp] theorem h51_steal : h51.steal = [10, 15, 19, 25, 35, 37] := rfl
@[simp] theorem h51_live : h51.live = [] := rfl
@[simp] theorem h51_roots : h51.roots = [(9, 9)] := rfl
@[simp] theorem h51_rets : h51.rets = true := rfl
@[simp] theorem h51_glob : h51.glob = [] := rfl
@[simp] theorem h51_sw : h51.sw = [43] := rfl
@[simp] theorem h51_msd : h51.msd = [] := rfl
@[simp] theorem h51_alt : h51.alt = [] := rfl
@[simp] theorem h51_fz : h51.fz = 0 := rfl
@[simp] theorem h51_gc : h51.gc = false := rfl
@[simp] theorem h51_wk : h51.wk = false := rfl
@[simp] theorem h51_rt : h51.rt = true := rfl
@[simp] theorem h51_inv : h51.inv = [] := rfl
@[simp] theorem h51_mv : h51.mv = [] := rfl
def h53 : Hint where
  vars := [0, 1, 4]
  conds := []
  steal := [5, 6]
  live := []
  roots := []
  rets := true
  glob := []
  sw := []
  msd := []
  alt := []
  fz := 0
  gc := false
  wk := false
  rt := false
  inv := []
  mv := []
@[simp] theorem h53_vars : h53.vars = [0, 1, 4] := rfl
@[simp] theorem h53_conds : h53.conds = [] := rfl
@[simp] theorem h53_steal : h53.steal = [5, 6] := rfl
@[simp] theorem h53_live : h53.live = [] := rfl
@[simp] theorem h53_roots : h53.roots = [] := rfl
@[simp] theorem h53_rets : h53.rets = true := rfl
@[simp] theorem h53_glob : h53.glob = [] := rfl
@[simp] theorem h53_sw : h53.sw = [] := rfl
@[simp] theorem h53_msd : h53.msd = [] := rfl
@[simp] theorem h53_alt : h53.alt = [] := rfl
@[simp] theorem h53_fz : h53.fz = 0 := rfl
@[simp] theorem h53_gc : h53.gc = false := rfl
@[simp] theorem h53_wk : h53.wk = false := rfl
@[simp] theorem h53_rt : h53.rt = false := rfl
@[simp] theorem h53_inv : h53.inv = [] := rfl
@[simp] theorem h53_mv : h53.mv = [] := rfl
def h55 : Hint where
  vars := [0, 1, 3, 4]
  conds := []
  steal := []
  live := []
  roots := [(5, 3), (8, 3), (14, 3), (16, 3)]
  rets := true
  glob := []
  sw := [18]
  msd := []
  alt := []
  fz := 0
  gc := true
  wk := false
  rt := false
  inv := []
  mv := []
@[simp] theorem h55_vars : h55.vars = [0, 1, 3, 4] := rfl
@[simp] theorem h55_conds : h55.conds = [] := rfl
@[simp] theorem h55_steal : h55.steal = [] := rfl
@[simp] theorem h55_live : h55.live = [] := rfl
@[simp] theorem h55_roots : h55.roots = [(5, 3), (8, 3), (14, 3), (16, 3)] := rfl
@[simp] theorem h55_rets : h55.rets = true := rfl
@[simp] theorem h55_glob : h55.glob = [] := rfl
@[simp] theorem h55_sw : h55.sw = [18] := rfl
@[simp] theorem h55_msd : h55.msd = [] := rfl
@[simp] theorem h55_alt : h55.alt = [] := rfl
@[simp] theorem h55_fz : h55.fz = 0 := rfl
@[simp] theorem h55_gc : h55.gc = true := rfl
@[simp] theorem h55_wk : h55.wk = false := rfl
@[simp] theorem h55_rt : h55.rt = false := rfl
@[simp] theorem h55_inv : h55.inv = [] := rfl
@[simp] theorem h55_mv : h55.mv = [] := rfl
def h59 : Hint where
  vars := [0, 2, 4, 5, 6, 7]
  conds := [8, 12]
  steal := [5, 13]
  live := [(2, [5, 6, 7])]
  roots := []
  rets := true
  glob := []
  sw := []
  msd := []
  alt := []
  fz := 0
  gc := false
  wk := false
  rt := false
  inv := []
  mv := []
@[simp] theorem h59_vars : h59.vars = [0, 2, 4, 5, 6, 7] := rfl
@[simp] theorem h59_conds : h59.conds = [8, 12] := rfl
@[simp] theorem h59_steal : h59.steal = [5, 13] := rfl
@[simp] theorem h59_live : h59.live = [(2, [5, 6, 7])] := rfl
@[simp] theorem h59_roots : h59.roots = [] := rfl
@[simp] theorem h59_rets : h59.rets = true := rfl
@[simp] theorem h59_glob : h59.glob = [] := rfl
@[simp] theorem h59_sw : h59.sw = [] := rfl
@[simp] theorem h59_msd : h59.msd = [] := rfl
@[simp] theorem h59_alt : h59.alt = [] := rfl
@[simp] theorem h59_fz : h59.fz = 0 := rfl
@[simp] theorem h59_gc : h59.gc = false := rfl
@[simp] theorem h59_wk : h59.wk = false := rfl
@[simp] theorem h59_rt : h59.rt = false := rfl
@[simp] theorem h59_inv : h59.inv = [] := rfl
@[simp] theorem h59_mv : h59.mv = [] := rfl
def h60 : Hint where
  vars := [0, 1, 4]
  conds := [5]
  steal := [5, 6]
  live := []
  roots := []
  rets := true
  glob := []
  sw := []
  msd := []
  alt := []
  fz := 0
  gc := false
  wk := false
  rt := false
  inv := []
  mv := []
@[simp] theorem h60_vars : h60.vars = [0, 1, 4] := rfl
@[simp] theorem h60_conds : h60.conds = [5] := rfl
@[simp] theorem h60_steal : h60.steal = [5, 6] := rfl
@[simp] theorem h60_live : h60.live = [] := rfl
@[simp] theorem h60_roots : h60.roots = [] := rfl
@[simp] theorem h60_rets : h60.rets = true := rfl
@[simp] theorem h60_glob : h60.glob = [] := rfl
@[simp] theorem h60_sw : h60.sw = [] := rfl
@[simp] theorem h60_msd : h60.msd = [] := rfl
@[simp] theorem h60_alt : h60.alt = [] := rfl
@[simp] theorem h60_fz : h60.fz = 0 := rfl
@[simp] theorem h60_gc : h60.gc = false := rfl
@[simp] theorem h60_wk : h60.wk = false := rfl
@[simp] theorem h60_rt : h60.rt = false := rfl
@[simp] theorem h60_inv : h60.inv = [] := rfl
@[simp] theorem h60_mv : h60.mv = [] := rfl
def h64 : Hint where
  vars := [0, 1, 4]
  conds := []
  steal := [5, 6]
  live := []
  roots := []
  rets := true
  glob := []
  sw := []
  msd := []
  alt := []
  fz := 0
  gc := false
  wk := false
  rt := false
  inv := []
  mv := []
@[simp] theorem h64_vars : h64.vars = [0, 1, 4] := rfl
@[simp] theorem h64_conds : h64.conds = [] := rfl
@[simp] theorem h64_steal : h64.steal = [5, 6] := rfl
@[simp] theorem h64_live : h64.live = [] := rfl
@[simp] theorem h64_roots : h64.roots = [] := rfl
@[simp] theorem h64_rets : h64.rets = true := rfl
@[simp] theorem h64_glob : h64.glob = [] := rfl
@[simp] theorem h64_sw : h64.sw = [] := rfl
@[simp] theorem h64_msd : h64.msd = [] := rfl
@[simp] theorem h64_alt : h64.alt = [] := rfl
@[simp] theorem h64_fz : h64.fz = 0 := rfl
@[simp] theorem h64_gc : h64.gc = false := rfl
@[simp] theorem h64_wk : h64.wk = false := rfl
@[simp] theorem h64_rt : h64.rt = false := rfl
@[simp] theorem h64_inv : h64.inv = [] := rfl
@[simp] theorem h64_mv : h64.mv = [] := rfl
def h82 : Hint where
  vars := [0, 1]
  conds := []
  steal := [5, 7]
  live := []
  roots := []
  rets := true
  glob := []
  sw := []
  msd := []
  alt := []
  fz := 0
  gc := false
  wk := false
  rt := false
  inv := []
  mv := []
@[simp] theorem h82_vars : h82.vars = [0, 1] := rfl
@[simp] theorem h82_conds : h82.conds = [] := rfl
@[simp] theorem h82_steal : h82.steal = [5, 7] := rfl
@[simp] theorem h82_live : h82.live = [] := rfl
@[simp] theorem h82_roots : h82.roots = [] := rfl
@[simp] theorem h82_rets : h82.rets = true := rfl
@[simp] theorem h82_glob : h82.glob = [] := rfl
@[simp] theorem h82_sw : h82.sw = [] := rfl
@[simp] theorem h82_msd : h82.msd = [] := rfl
@[simp] theorem h82_alt : h82.alt = [] := rfl
@[simp] theorem h82_fz : h82.fz = 0 := rfl
@[simp] theorem h82_gc : h82.gc = false := rfl
@[simp] theorem h82_wk : h82.wk = false := rfl
@[simp] theorem h82_rt : h82.rt = false := rfl
@[simp] theorem h82_inv : h82.inv = [] := rfl
@[simp] theorem h82_mv : h82.mv = [] := rfl
def h83 : Hint where
  vars := [0, 1, 2, 3, 4]
  conds := [5, 11]
  steal := []
  live := []
  roots := []
  rets := true
  glob := []
  sw := []
  msd := []
  alt := []
  fz := 0
  gc := false
  wk := false
  rt := false
  inv := []
  mv := []
@[simp] theorem h83_vars : h83.vars = [0, 1, 2, 3, 4] := rfl
@[simp] theorem h83_conds : h83.conds = [5, 11] := rfl
@[simp] theorem h83_steal : h83.steal = [] := rfl
@[simp] theorem h83_live : h83.live = [] := rfl
@[simp] theorem h83_roots : h83.roots = [] := rfl
@[simp] theorem h83_rets : h83.rets = true := rfl
@[simp] theorem h83_glob : h83.glob = [] := rfl
@[simp] theorem h83_sw : h83.sw = [] := rfl
@[simp] theorem h83_msd : h83.msd = [] := rfl
@[simp] theorem h83_alt : h83.alt = [] := rfl
@[simp] theorem h83_fz : h83.fz = 0 := rfl
@[simp] theorem h83_gc : h83.gc = false := rfl
@[simp] theorem h83_wk : h83.wk = false := rfl
@[simp] theorem h83_rt : h83.rt = false := rfl
@[simp] theorem h83_inv : h83.inv = [] := rfl
@[simp] theorem h83_mv : h83.mv = [] := rfl
def h84 : Hint where
  vars := [0, 1, 2, 3, 4]
  conds := []
  steal := []
  live := []
  roots := []
  rets := true
  glob := []
  sw := []
  msd := []
  alt := []
  fz := 0
  gc := false
  wk := false
  rt := false
  inv := []
  mv := []
@[simp] theorem h84_vars : h84.vars = [0, 1, 2, 3, 4] := rfl
@[simp] theorem h84_conds : h84.conds = [] := rfl
@[simp] theorem h84_steal : h84.steal = [] := rfl
@[simp] theorem h84_live : h84.live = [] := rfl
@[simp] theorem h84_roots : h84.roots = [] := rfl
@[simp] theorem h84_rets : h84.rets = true := rfl
@[simp] theorem h84_glob : h84.glob = [] := rfl
@[simp] theorem h84_sw : h84.sw = [] := rfl
@[simp] theorem h84_msd : h84.msd = [] := rfl
@[simp] theorem h84_alt : h84.alt = [] := rfl
@[simp] theorem h84_fz : h84.fz = 0 := rfl
@[simp] theorem h84_gc : h84.gc = false := rfl
@[simp] theorem h84_wk : h84.wk = false := rfl
@[simp] theorem h84_rt : h84.rt = false := rfl
@[simp] theorem h84_inv : h84.inv = [] := rfl
@[simp] theorem h84_mv : h84.mv = [] := rfl
def h85 : Hint where
  vars := [0, 1, 4, 5, 6]
  conds := [11, 12, 13, 16, 19]
  steal := [11, 12, 13, 17, 18]
  live := []
  roots := []
  rets := true
  glob := []
  sw := []
  msd := []
  alt := []
  fz := 0
  gc := false
  wk := false
  rt := false
  inv := []
  mv := []
@[simp] theorem h85_vars : h85.vars = [0, 1, 4, 5, 6] := rfl
@[simp] theorem h85_conds : h85.conds = [11, 12, 13, 16, 19] := rfl
@[simp] theorem h85_steal : h85.steal = [11, 12, 13, 17, 18] := rfl
@[simp] theorem h85_live : h85.live = [] := rfl
@[simp] theorem h85_roots : h85.roots = [] := rfl
@[simp] theorem h85_rets : h85.rets = true := rfl
@[simp] theorem h85_glob : h85.glob = [] := rfl
@[simp] theorem h85_sw : h85.sw = [] := rfl
@[simp] theorem h85_msd : h85.msd = [] := rfl
@[simp] theorem h85_alt : h85.alt = [] := rfl
@[simp] theorem h85_fz : h85.fz = 0 := rfl
@[simp] theorem h85_gc : h85.gc = false := rfl
@[simp] theorem h85_wk : h85.wk = false := rfl
@[simp] theorem h85_rt : h85.rt = false := rfl
@[simp] theorem h85_inv : h85.inv = [] := rfl
@[simp] theorem h85_mv : h85.mv = [] := rfl
def h86 : Hint where
  vars := [0, 1, 2, 3, 4]
  conds := [9]
  steal := [16]
  live := []
  roots := []
  rets := true
  glob := []
  sw := []
  msd := []
  alt := []
  fz := 0
  gc := false
  wk := false
  rt := false
  inv := []
  mv := []
@[simp] theorem h86_vars : h86.vars = [0, 1, 2, 3, 4] := rfl
@[simp] theorem h86_conds : h86.conds = [9] := rfl
@[simp] theorem h86_steal : h86.steal = [16] := rfl
@[simp] theorem h86_live : h86.live = [] := rfl
@[simp] theorem h86_roots : h86.roots = [] := rfl
@[simp] theorem h86_rets : h86.rets = true := rfl
@[simp] theorem h86_glob : h86.glob = [] := rfl
@[simp] theorem h86_sw : h86.sw = [] := rfl
@[simp] theorem h86_msd : h86.msd = [] := rfl
@[simp] theorem h86_alt : h86.alt = [] := rfl
@[simp] theorem h86_fz : h86.fz = 0 := rfl
@[simp] theorem h86_gc : h86.gc = false := rfl
@[simp] theorem h86_wk : h86.wk = false := rfl
@[simp] theorem h86_rt : h86.rt = false := rfl
@[simp] theorem h86_inv : h86.inv = [] := rfl
@[simp] theorem h86_mv : h86.mv = [] := rfl
def h87 : Hint where
  vars := [0, 1, 2, 3, 4]
  conds := []
  steal := [9]
  live := []
  roots := []
  rets := true
  glob := []
  sw := []
  msd := []
  alt := []
  fz := 0
  gc := false
  wk := false
  rt := false
  inv := []
  mv := []
@[simp] theorem h87_vars : h87.vars = [0, 1, 2, 3, 4] := rfl
@[simp] theorem h87_conds : h87.conds = [] := rfl
@[simp] theorem h87_steal : h87.steal = [9] := rfl
@[simp] theorem h87_live : h87.live = [] := rfl
@[simp] theorem h87_roots : h87.roots = [] := rfl
@[simp] theorem h87_rets : h87.rets = true := rfl
@[simp] theorem h87_glob : h87.glob = [] := rfl
@[simp] theorem h87_sw : h87.sw = [] := rfl
@[simp] theorem h87_msd : h87.msd = [] := rfl
@[simp] theorem h87_alt : h87.alt = [] := rfl
@[simp] theorem h87_fz : h87.fz = 0 := rfl
@[simp] theorem h87_gc : h87.gc = false := rfl
@[simp] theorem h87_wk : h87.wk = false := rfl
@[simp] theorem h87_rt : h87.rt = false := rfl
@[simp] theorem h87_inv : h87.inv = [] := rfl
@[simp] theorem h87_mv : h87.mv = [] := rfl
def h88 : Hint where
  vars := [0, 1, 3, 4, 5, 7, 8]
  conds := [9, 16]
  steal := [17]
  live := [(2, [0, 3, 7, 8])]
  roots := [(3, 3)]
  rets := true
  glob := []
  sw := []
  msd := []
  alt := []
  fz := 0
  gc := false
  wk := false
  rt := false
  inv := []
  mv := []
@[simp] theorem h88_vars : h88.vars = [0, 1, 3, 4, 5, 7, 8] := rfl
@[simp] theorem h88_conds : h88.conds = [9, 16] := rfl
@[simp] theorem h88_steal : h88.steal = [17] := rfl
@[simp] theorem h88_live : h88.live = [(2, [0, 3, 7, 8])] := rfl
@[simp] theorem h88_roots : h88.roots = [(3, 3)] := rfl
@[simp] theorem h88_rets : h88.rets = true := rfl
@[simp] theorem h88_glob : h88.glob = [] := rfl
@[simp] theorem h88_sw : h88.sw = [] := rfl
@[simp] theorem h88_msd : h88.msd = [] := rfl
@[simp] theorem h88_alt : h88.alt = [] := rfl
@[simp] theorem h88_fz : h88.fz = 0 := rfl
@[simp] theorem h88_gc : h88.gc = false := rfl
@[simp] theorem h88_wk : h88.wk = false := rfl
@[simp] theorem h88_rt : h88.rt = false := rfl
@[simp] theorem h88_inv : h88.inv = [] := rfl
@[simp] theorem h88_mv : h88.mv = [] := rfl
def h91 : Hint where
  vars := [0, 1, 4, 5, 7, 8]
  conds := [9, 16]
  steal := [17]
  live := [(2, [0, 1, 7, 8])]
  roots := []
  rets := true
  glob := []
  sw := []
  msd := []
  alt := []
  fz := 0
  gc := false
  wk := false
  rt := false
  inv := []
  mv := []
@[simp] theorem h91_vars : h91.vars = [0, 1, 4, 5, 7, 8] := rfl
@[simp] theorem h91_conds : h91.conds = [9, 16] := rfl
@[simp] theorem h91_steal : h91.steal = [17] := rfl
@[simp] theorem h91_live : h91.live = [(2, [0, 1, 7, 8])] := rfl
@[simp] theorem h91_roots : h91.roots = [] := rfl
@[simp] theorem h91_rets : h91.rets = true := rfl
@[simp] theorem h91_glob : h91.glob = [] := rfl
@[simp] theorem h91_sw : h91.sw = [] := rfl
@[simp] theorem h91_msd : h91.msd = [] := rfl
@[simp] theorem h91_alt : h91.alt = [] := rfl
@[simp] theorem h91_fz : h91.fz = 0 := rfl
@[simp] theorem h91_gc : h91.gc = false := rfl
@[simp] theorem h91_wk : h91.wk = false := rfl
@[simp] theorem h91_rt : h91.rt = false := rfl
@[simp] theorem h91_inv : h91.inv = [] := rfl
@[simp] theorem h91_mv : h91.mv = [] := rfl
def h93 : Hint where
  vars := [0, 1, 2, 3]
  conds := [8, 13, 19]
  steal := [9]
  live := []
  roots := []
  rets := true
  glob := []
  sw := []
  msd := []
  alt := []
  fz := 0
  gc := false
  wk := false
  rt := false
  inv := []
  mv := []
@[simp] theorem h93_vars : h93.vars = [0, 1, 2, 3] := rfl
@[simp] theorem h93_conds : h93.conds = [8, 13, 19] := rfl
@[simp] theorem h93_steal : h93.steal = [9] := rfl
@[simp] theorem h93_live : h93.live = [] := rfl
@[simp] theorem h93_roots : h93.roots = [] := rfl
@[simp] theorem h93_rets : h93.rets = true := rfl
@[simp] theorem h93_glob : h93.glob = [] := rfl
@[simp] theorem h93_sw : h93.sw = [] := rfl
@[simp] theorem h93_msd : h93.msd = [] := rfl
@[simp] theorem h93_alt : h93.alt = [] := rfl
@[simp] theorem h93_fz : h93.fz = 0 := rfl
@[simp] theorem h93_gc : h93.gc = false := rfl
@[simp] theorem h93_wk : h93.wk = false := rfl
@[simp] theorem h93_rt : h93.rt = false := rfl
@[simp] theorem h93_inv : h93.inv = [] := rfl
@[simp] theorem h93_mv : h93.mv = [] := rfl
def h94 : Hint where
  vars := [0, 1, 4]
  conds := []
  steal := [5, 6]
  live := []
  roots := []
  rets := true
  glob := []
  sw := []
  msd := []
  alt := []
  fz := 0
  gc := false
  wk := false
  rt := false
  inv := []
  mv := []
@[simp] theorem h94_vars : h94.vars = [0, 1, 4] := rfl
@[simp] theorem h94_conds : h94.conds = [] := rfl
@[simp] theorem h94_steal : h94.steal = [5, 6] := rfl
@[simp] theorem h94_live : h94.live = [] := rfl
@[simp] theorem h94_roots : h94.roots = [] := rfl
@[simp] theorem h94_rets : h94.rets = true := rfl
@[simp] theorem h94_glob : h94.glob = [] := rfl
@[simp] theorem h94_sw : h94.sw = [] := rfl
@[simp] theorem h94_msd : h94.msd = [] := rfl
@[simp] theorem h94_alt : h94.alt = [] := rfl
@[simp] theorem h94_fz : h94.fz = 0 := rfl
@[simp] theorem h94_gc : h94.gc = false := rfl
@[simp] theorem h94_wk : h94.wk = false := rfl
@[simp] theorem h94_rt : h94.rt = false := rfl
@[simp] theorem h94_inv : h94.inv = [] := rfl
@[simp] theorem h94_mv : h94.mv = [] := rfl
def h127 : Hint where
  vars := [0, 1, 2, 3, 4]
  conds := [9]
  steal := []
  live := []
  roots := []
  rets := true
  glob := []
  sw := []
  msd := []
  alt := []
  fz := 0
  gc := false
  wk := false
  rt := false
  inv := []
  mv := []
@[simp] theorem h127_vars : h127.vars = [0, 1, 2, 3, 4] := rfl
@[simp] theorem h127_conds : h127.conds = [9] := rfl
@[simp] theorem h127_steal : h127.steal = [] := rfl
@[simp] theorem h127_live : h127.live = [] := rfl
@[simp] theorem h127_roots : h127.roots = [] := rfl
@[simp] theorem h127_rets : h127.rets = true := rfl
@[simp] theorem h127_glob : h127.glob = [] := rfl
@[simp] theorem h127_sw : h127.sw = [] := rfl
@[simp] theorem h127_msd : h127.msd = [] := rfl
@[simp] theorem h127_alt : h127.alt = [] := rfl
@[simp] theorem h127_fz : h127.fz = 0 := rfl
@[simp] theorem h127_gc : h127.gc = false := rfl
@[simp] theorem h127_wk : h127.wk = false := rfl
@[simp] theorem h127_rt : h127.rt = false := rfl
@[simp] theorem h127_inv : h127.inv = [] := rfl
@[simp] theorem h127_mv : h127.mv = [] := rfl
def h128 : Hint where
  vars := [0, 1, 2, 6, 7, 8, 9]
  conds := [13, 30, 35, 54]
  steal := [15, 20, 24, 38, 45, 56, 57, 61]
  live := [(2, [0, 1, 2, 6, 7, 8]), (7, [0, 1, 2, 6]), (9, [0, 1, 2, 6, 7, 8])]
  roots := []
  rets := true
  glob := []
  sw := []
  msd := []
  alt := []
  fz := 0
  gc := false
  wk := false
  rt := false
  inv := []
  mv := []
@[simp] theorem h128_vars : h128.vars = [0, 1, 2, 6, 7, 8, 9] := rfl
@[simp] theorem h128_conds : h128.conds = [13, 30, 35, 54] := rfl
@[simp] theorem h128_steal : h128.steal = [15, 20, 24, 38, 45, 56, 57, 61] := rfl
@[simp] theorem h128_live : h128.live = [(2, [0, 1, 2, 6, 7, 8]), (7, [0, 1, 2, 6]), (9, [0, 1, 2, 6, 7, 8])] := rfl
@[simp] theorem h128_roots : h128.roots = [] := rfl
@[simp] theorem h128_rets : h128.rets = true := rfl
@[simp] theorem h128_glob : h128.glob = [] := rfl
@[simp] theorem h128_sw : h128.sw = [] := rfl
@[simp] theorem h128_msd : h128.msd = [] := rfl
@[simp] theorem h128_alt : h128.alt = [] := rfl
@[simp] theorem h128_fz : h128.fz = 0 := rfl
@[simp] theorem h128_gc : h128.gc = false := rfl
@[simp] theorem h128_wk : h128.wk = false := rfl
@[simp] theorem h128_rt : h128.rt = false := rfl
@[simp] theorem h128_inv : h128.inv = [] := rfl
@[simp] theorem h128_mv : h128.mv = [] := rfl
def h129 : Hint where
  vars := [0, 1, 2, 3, 4]
  conds := []
  steal := []
  live := []
  roots := [(5, 2), (7, 3), (10, 2), (12, 3)]
  rets := true
  glob := []
  sw := [14]
  msd := []
  alt := []
  fz := 0
  gc := false
  wk := false
  rt := false
  inv := []
  mv := []
@[simp] theorem h129_vars : h129.vars = [0, 1, 2, 3, 4] := rfl
@[simp] theorem h129_conds : h129.conds = [] := rfl
@[simp] theorem h129_steal : h129.steal = [] := rfl
@[simp] theorem h129_live : h129.live = [] := rfl
@[simp] theorem h129_roots : h129.roots = [(5, 2), (7, 3), (10, 2), (12, 3)] := rfl
@[simp] theorem h129_rets : h129.rets = true := rfl
@[simp] theorem h129_glob : h129.glob = [] := rfl
@[simp] theorem h129_sw : h129.sw = [14] := rfl
@[simp] theorem h129_msd : h129.msd = [] := rfl
@[simp] theorem h129_alt : h129.alt = [] := rfl
@[simp] theorem h129_fz : h129.fz = 0 := rfl
@[simp] theorem h129_gc : h129.gc = false := rfl
@[simp] theorem h129_wk : h129.wk = false := rfl
@[simp] theorem h129_rt : h129.rt = false := rfl
@[simp] theorem h129_inv : h129.inv = [] := rfl
@[simp] theorem h129_mv : h129.mv = [] := rfl
def h130 : Hint where
  vars := [0, 2]
  conds := []
  steal := [4]
  live := []
  roots := []
  rets := true
  glob := []
  sw := []
  msd := []
  alt := []
  fz := 0
  gc := false
  wk := false
  rt := false
  inv := []
  mv := []
@[simp] theorem h130_vars : h130.vars = [0, 2] := rfl
@[simp] theorem h130_conds : h130.conds = [] := rfl
@[simp] theorem h130_steal : h130.steal = [4] := rfl
@[simp] theorem h130_live : h130.live = [] := rfl
@[simp] theorem h130_roots : h130.roots = [] := rfl
@[simp] theorem h130_rets : h130.rets = true := rfl
@[simp] theorem h130_glob : h130.glob = [] := rfl
@[simp] theorem h130_sw : h130.sw = [] := rfl
@[simp] theorem h130_msd : h130.msd = [] := rfl
@[simp] theorem h130_alt : h130.alt = [] := rfl
@[simp] theorem h130_fz : h130.fz = 0 := rfl
@[simp] theorem h130_gc : h130.gc = false := rfl
@[simp] theorem h130_wk : h130.wk = false := rfl
@[simp] theorem h130_rt : h130.rt = false := rfl
@[simp] theorem h130_inv : h130.inv = [] := rfl
@[simp] theorem h130_mv : h130.mv = [] := rfl
def h134 : Hint where
  vars := [0, 2, 3, 5, 6, 7, 9]
  conds := [12, 37, 62]
  steal := [13, 18, 23, 28, 30, 33, 34, 43, 44, 47, 48, 49, 54, 55, 59, 60]
  live := []
  roots := []
  rets := true
  glob := []
  sw := []
  msd := []
  alt := []
  fz := 0
  gc := true
  wk := false
  rt := false
  inv := []
  mv := []
@[simp] theorem h134_vars : h134.vars = [0, 2, 3, 5, 6, 7, 9] := rfl
@[simp] theorem h134_conds : h134.conds = [12, 37, 62] := rfl
@[simp] theorem h134_steal : h134.steal = [13, 18, 23, 28, 30, 33, 34, 43, 44, 47, 48, 49, 54, 55, 59, 60] := rfl
@[simp] theorem h134_live : h134.live = [] := rfl
@[simp] theorem h134_roots : h134.roots = [] := rfl
@[simp] theorem h134_rets : h134.rets = true := rfl
@[simp] theorem h134_glob : h134.glob = [] := rfl
@[simp] theorem h134_sw : h134.sw = [] := rfl
@[simp] theorem h134_msd : h134.msd = [] := rfl
@[simp] theorem h134_alt : h134.alt = [] := rfl
@[simp] theorem h134_fz : h134.fz = 0 := rfl
@[simp] theorem h134_gc : h134.gc = true := rfl
@[simp] theorem h134_wk : h134.wk = false := rfl
@[simp] theorem h134_rt : h134.rt = false := rfl
@[simp] theorem h134_inv : h134.inv = [] := rfl
@[simp] theorem h134_mv : h134.mv = [] := rfl
def h135 : Hint where
  vars := [0, 2, 4]
  conds := []
  steal := [5, 6, 9, 10]
  live := []
  roots := []
  rets := true
  glob := []
  sw := []
  msd := []
  alt := []
  fz := 0
  gc := false
  wk := false
  rt := false
  inv := []
  mv := []
@[simp] theorem h135_vars : h135.vars = [0, 2, 4] := rfl
@[simp] theorem h135_conds : h135.conds = [] := rfl
@[simp] theorem h135_steal : h135.steal = [5, 6, 9, 10] := rfl
@[simp] theorem h135_live : h135.live = [] := rfl
@[simp] theorem h135_roots : h135.roots = [] := rfl
@[simp] theorem h135_rets : h135.rets = true := rfl
@[simp] theorem h135_glob : h135.glob = [] := rfl
@[simp] theorem h135_sw : h135.sw = [] := rfl
@[simp] theorem h135_msd : h135.msd = [] := rfl
@[simp] theorem h135_alt : h135.alt = [] := rfl
@[simp] theorem h135_fz : h135.fz = 0 := rfl
@[simp] theorem h135_gc : h135.gc = false := rfl
@[simp] theorem h135_wk : h135.wk = false := rfl
@[simp] theorem h135_rt : h135.rt = false := rfl
@[simp] theorem h135_inv : h135.inv = [] := rfl
@[simp] theorem h135_mv : h135.mv = [] := rfl
def h136 : Hint where
  vars := [0, 1, 4, 5, 6, 8]
  conds := []
  steal := [9, 10, 13, 14, 15, 18, 19, 20, 25, 26, 28]
  live := []
  roots := []
  rets := true
  glob := []
  sw := []
  msd := []
  alt := []
  fz := 0
  gc := false
  wk := false
  rt := false
  inv := []
  mv := []
@[simp] theorem h136_vars : h136.vars = [0, 1, 4, 5, 6, 8] := rfl
@[simp] theorem h136_conds : h136.conds = [] := rfl
@[simp] theorem h136_steal : h136.steal = [9, 10, 13, 14, 15, 18, 19, 20, 25, 26, 28] := rfl
@[simp] theorem h136_live : h136.live = [] := rfl
@[simp] theorem h136_roots : h136.roots = [] := rfl
@[simp] theorem h136_rets : h136.rets = true := rfl
@[simp] theorem h136_glob : h136.glob = [] := rfl
@[simp] theorem h136_sw : h136.sw = [] := rfl
@[simp] theorem h136_msd : h136.msd = [] := rfl
@[simp] theorem h136_alt : h136.alt = [] := rfl
@[simp] theorem h136_fz : h136.fz = 0 := rfl
@[simp] theorem h136_gc : h136.gc = false := rfl
@[simp] theorem h136_wk : h136.wk = false := rfl
@[simp] theorem h136_rt : h136.rt = false := rfl
@[simp] theorem h136_inv : h136.inv = [] := rfl
@[simp] theorem h136_mv : h136.mv = [] := rfl
def h151 : Hint where
  vars := [0, 1, 4, 6, 8, 9, 10]
  conds := [11, 30]
  steal := [7, 18, 23, 25]
  live := [(2, [1, 8, 9, 10])]
  roots := []
  rets := true
  glob := []
  sw := []
  msd := []
  alt := []
  fz := 0
  gc := false
  wk := false
  rt := false
  inv := []
  mv := []
@[simp] theorem h151_vars : h151.vars = [0, 1, 4, 6, 8, 9, 10] := rfl
@[simp] theorem h151_conds : h151.conds = [11, 30] := rfl
@[simp] theorem h151_steal : h151.steal = [7, 18, 23, 25] := rfl
@[simp] theorem h151_live : h151.live = [(2, [1, 8, 9, 10])] := rfl
@[simp] theorem h151_roots : h151.roots = [] := rfl
@[simp] theorem h151_rets : h151.rets = true := rfl
@[simp] theorem h151_glob : h151.glob = [] := rfl
@[simp] theorem h151_sw : h151.sw = [] := rfl
@[simp] theorem h151_msd : h151.msd = [] := rfl
@[simp] theorem h151_alt : h151.alt = [] := rfl
@[simp] theorem h151_fz : h151.fz = 0 := rfl
@[simp] theorem h151_gc : h151.gc = false := rfl
@[simp] theorem h151_wk : h151.wk = false := rfl
@[simp] theorem h151_rt : h151.rt = false := rfl
@[simp] theorem h151_inv : h151.inv = [] := rfl
@[simp] theorem h151_mv : h151.mv = [] := rfl
def h152 : Hint where
  vars := [0, 1, 2]
  conds := []
  steal := []
  live := []
  roots := []
  rets := true
  glob := [1]
  sw := []
  msd := []
  alt := []
  fz := 0
  gc := false
  wk := false
  rt := false
  inv := []
  mv := []
@[simp] theorem h152_vars : h152.vars = [0, 1, 2] := rfl
@[simp] theorem h152_conds : h152.conds = [] := rfl
@[simp] theorem h152_steal : h152.steal = [] := rfl
@[simp] theorem h152_live : h152.live = [] := rfl
@[simp] theorem h152_roots : h152.roots = [] := rfl
@[simp] theorem h152_rets : h152.rets = true := rfl
@[simp] theorem h152_glob : h152.glob = [1] := rfl
@[simp] theorem h152_sw : h152.sw = [] := rfl
@[simp] theorem h152_msd : h152.msd = [] := rfl
@[simp] theorem h152_alt : h152.alt = [] := rfl
@[simp] theorem h152_fz : h152.fz = 0 := rfl
@[simp] theorem h152_gc : h152.gc = false := rfl
@[simp] theorem h152_wk : h152.wk = false := rfl
@[simp] theorem h152_rt : h152.rt = false := rfl
@[simp] theorem h152_inv : h152.inv = [] := rfl
@[simp] theorem h152_mv : h152.mv = [] := rfl
def h158 : Hint where
  vars := [0, 1, 4, 5, 6, 7, 8, 9, 10, 11, 12, 13, 14, 15, 16, 17, 18]
  conds := [40, 41, 42, 48, 54, 60, 69, 96, 109]
  steal := [19, 26, 27, 34, 37, 41, 42, 43, 44, 49, 50, 55, 56, 61, 62, 66, 75, 77, 78, 83, 85, 91, 97, 110, 111, 113]
  live := [(20, [15, 16, 17])]
  roots := []
  rets := true
  glob := []
  sw := [107]
  msd := []
  alt := []
  fz := 0
  gc := false
  wk := false
  rt := false
  inv := []
  mv := []
@[simp] theorem h158_vars : h158.vars = [0, 1, 4, 5, 6, 7, 8, 9, 10, 11, 12, 13, 14, 15, 16, 17, 18] := rfl
@[simp] theorem h158_conds : h158.conds = [40, 41, 42, 48, 54, 60, 69, 96, 109] := rfl
@[simp] theorem h158_steal : h158.steal = [19, 26, 27, 34, 37, 41, 42, 43, 44, 49, 50, 55, 56, 61, 62, 66, 75, 77, 78, 83, 85, 91, 97, 110, 111, 113] := rfl
@[simp] theorem h158_live : h158.live = [(20, [15, 16, 17])] := rfl
@[simp] theorem h158_roots : h158.roots = [] := rfl
@[simp] theorem h158_rets : h158.rets = true := rfl
@[simp] theorem h158_glob : h158.glob = [] := rfl
@[simp] theorem h158_sw : h158.sw = [107] := rfl
@[simp] theorem h158_msd : h158.msd = [] := rfl
@[simp] theorem h158_alt : h158.alt = [] := rfl
@[simp] theorem h158_fz : h158.fz = 0 := rfl
@[simp] theorem h158_gc : h158.gc = false := rfl
@[simp] theorem h158_wk : h158.wk = false := rfl
@[simp] theorem h158_rt : h158.rt = false := rfl
@[simp] theorem h158_inv : h158.inv = [] := rfl
@[simp] theorem h158_mv : h158.mv = [] := rfl
def h159 : Hint where
  vars := [0, 1, 2, 3, 8, 9]
  conds := [14, 34]
  steal := [15, 35]
  live := [(1, [0, 1, 2, 3, 8]), (4, [0, 1, 2, 3, 8, 9])]
  roots := []
  rets := true
  glob := []
  sw := [32, 51, 52]
  msd := []
  alt := []
  fz := 0
  gc := true
  wk := false
  rt := false
  inv := []
  mv := []
@[simp] theorem h159_vars : h159.vars = [0, 1, 2, 3, 8, 9] := rfl
@[simp] theorem h159_conds : h159.conds = [14, 34] := rfl
@[simp] theorem h159_steal : h159.steal = [15, 35] := rfl
@[simp] theorem h159_live : h159.live = [(1, [0, 1, 2, 3, 8]), (4, [0, 1, 2, 3, 8, 9])] := rfl
@[simp] theorem h159_roots : h159.roots = [] := rfl
@[simp] theorem h159_rets : h159.rets = true := rfl
@[simp] theorem h159_glob : h159.glob = [] := rfl
@[simp] theorem h159_sw : h159.sw = [32, 51, 52] := rfl
@[simp] theorem h159_msd : h159.msd = [] := rfl
@[simp] theorem h159_alt : h159.alt = [] := rfl
@[simp] theorem h159_fz : h159.fz = 0 := rfl
@[simp] theorem h159_gc : h159.gc = true := rfl
@[simp] theorem h159_wk : h159.wk = false := rfl
@[simp] theorem h159_rt : h159.rt = false := rfl
@[simp] theorem h159_inv : h159.inv = [] := rfl
@[simp] theorem h159_mv : h159.mv = [] := rfl
def h160 : Hint where
  vars := [0, 1, 2, 3, 4, 10, 11, 12, 13, 14, 15, 16, 17, 18, 19, 20, 21, 22, 23, 24]
  conds := [28, 33, 50, 58, 80, 85, 103, 110, 140, 151, 171, 185, 199, 213]
  steal := [29, 30, 51, 53, 54, 59, 81, 104, 106, 107, 111, 172, 174, 175, 181, 188, 195, 201, 202, 209, 214, 215, 216, 217, 218]
  live := [(3, [0, 1, 4, 10, 11]), (9, [0, 10, 13]), (15, [0, 2, 4, 14, 15]), (21, [0, 14, 17]), (33, [0, 1, 2, 3, 4, 18, 19, 20, 21, 22])]
  roots := []
  rets := true
  glob := []
  sw := [49, 75, 76, 101, 127, 128, 169]
  msd := []
  alt := []
  fz := 0
  gc := true
  wk := false
  rt := false
  inv := []
  mv := []
@[simp] theorem h160_vars : h160.vars = [0, 1, 2, 3, 4, 10, 11, 12, 13, 14, 15, 16, 17, 18, 19, 20, 21, 22, 23, 24] := rfl
@[simp] theorem h160_conds : h160.conds = [28, 33, 50, 58, 80, 85, 103, 110, 140, 151, 171, 185, 199, 213] := rfl
@[simp] theorem h160_steal : h160.steal = [29, 30, 51, 53, 54, 59, 81, 104, 106, 107, 111, 172, 174, 175, 181, 188, 195, 201, 202, 209, 214, 215, 216, 217, 218] := rfl
@[simp] theorem h160_live : h160.live = [(3, [0, 1, 4, 10, 11]), (9, [0, 10, 13]), (15, [0, 2, 4, 14, 15]), (21, [0, 14, 17]), (33, [0, 1, 2, 3, 4, 18, 19, 20, 21, 22])] := rfl
@[simp] theorem h160_roots : h160.roots = [] := rfl
@[simp] theorem h160_rets : h160.rets = true := rfl
@[simp] theorem h160_glob : h160.glob = [] := rfl
@[simp] theorem h160_sw : h160.sw = [49, 75, 76, 101, 127, 128, 169] := rfl
@[simp] theorem h160_msd : h160.msd = [] := rfl
@[simp] theorem h160_alt : h160.alt = [] := rfl
@[simp] theorem h160_fz : h160.fz = 0 := rfl
@[simp] theorem h160_gc : h160.gc = true := rfl
@[simp] theorem h160_wk : h160.wk = false := rfl
@[simp] theorem h160_rt : h160.rt = false := rfl
@[simp] theorem h160_inv : h160.inv = [] := rfl
@[simp] theorem h160_mv : h160.mv = [] := rfl
def h161 : Hint where
  vars := [0, 2, 3, 5, 6, 7, 8]
  conds := [9, 14]
  steal := [6, 15, 17]
  live := [(3, [3, 6, 7, 8])]
  roots := []
  rets := true
  glob := []
  sw := []
  msd := []
  alt := []
  fz := 0
  gc := false
  wk := false
  rt := false
  inv := []
  mv := []
@[simp] theorem h161_vars : h161.vars = [0, 2, 3, 5, 6, 7, 8] := rfl
@[simp] theorem h161_conds : h161.conds = [9, 14] := rfl
@[simp] theorem h161_steal : h161.steal = [6, 15, 17] := rfl
@[simp] theorem h161_live : h161.live = [(3, [3, 6, 7, 8])] := rfl
@[simp] theorem h161_roots : h161.roots = [] := rfl
@[simp] theorem h161_rets : h161.rets = true := rfl
@[simp] theorem h161_glob : h161.glob = [] := rfl
@[simp] theorem h161_sw : h161.sw = [] := rfl
@[simp] theorem h161_msd : h161.msd = [] := rfl
@[simp] theorem h161_alt : h161.alt = [] := rfl
@[simp] theorem h161_fz : h161.fz = 0 := rfl
@[simp] theorem h161_gc : h161.gc = false := rfl
@[simp] theorem h161_wk : h161.wk = false := rfl
@[simp] theorem h161_rt : h161.rt = false := rfl
@[simp] theorem h161_inv : h161.inv = [] := rfl
@[simp] theorem h161_mv : h161.mv = [] := rfl
def h162 : Hint where
  vars := [0, 1, 4]
  conds := []
  steal := [5, 6]
  live := []
  roots := []
  rets := true
  glob := []
  sw := []
  msd := []
  alt := []
  fz := 0
  gc := false
  wk := false
  rt := false
  inv := []
  mv := []
@[simp] theorem h162_vars : h162.vars = [0, 1, 4] := rfl
@[simp] theorem h162_conds : h162.conds = [] := rfl
@[simp] theorem h162_steal : h162.steal = [5, 6] := rfl
@[simp] theorem h162_live : h162.live = [] := rfl
@[simp] theorem h162_roots : h162.roots = [] := rfl
@[simp] theorem h162_rets : h162.rets = true := rfl
@[simp] theorem h162_glob : h162.glob = [] := rfl
@[simp] theorem h162_sw : h162.sw = [] := rfl
@[simp] theorem h162_msd : h162.msd = [] := rfl
@[simp] theorem h162_alt : h162.alt = [] := rfl
@[simp] theorem h162_fz : h162.fz = 0 := rfl
@[simp] theorem h162_gc : h162.gc = false := rfl
@[simp] theorem h162_wk : h162.wk = false := rfl
@[simp] theorem h162_rt : h162.rt = false := rfl
@[simp] theorem h162_inv : h162.inv = [] := rfl
@[simp] theorem h162_mv : h162.mv = [] := rfl
def h163 : Hint where
  vars := [0, 1, 4, 5, 6, 7, 8]
  conds := [19, 29, 32]
  steal := [9, 13, 14, 18, 22, 26, 27, 30, 33]
  live := []
  roots := [(35, 5), (37, 7), (40, 5), (42, 7), (45, 5), (47, 7), (50, 5), (52, 7)]
  rets := true
  glob := []
  sw := []
  msd := []
  alt := []
  fz := 0
  gc := false
  wk := false
  rt := false
  inv := []
  mv := []
@[simp] theorem h163_vars : h163.vars = [0, 1, 4, 5, 6, 7, 8] := rfl
@[simp] theorem h163_conds : h163.conds = [19, 29, 32] := rfl
@[simp] theorem h163_steal : h163.steal = [9, 13, 14, 18, 22, 26, 27, 30, 33] := rfl
@[simp] theorem h163_live : h163.live = [] := rfl
@[simp] theorem h163_roots : h163.roots = [(35, 5), (37, 7), (40, 5), (42, 7), (45, 5), (47, 7), (50, 5), (52, 7)] := rfl
@[simp] theorem h163_rets : h163.rets = true := rfl
@[simp] theorem h163_glob : h163.glob = [] := rfl
@[simp] theorem h163_sw : h163.sw = [] := rfl
@[simp] theorem h163_msd : h163.msd = [] := rfl
@[simp] theorem h163_alt : h163.alt = [] := rfl
@[simp] theorem h163_fz : h163.fz = 0 := rfl
@[simp] theorem h163_gc : h163.gc = false := rfl
@[simp] theorem h163_wk : h163.wk = false := rfl
@[simp] theorem h163_rt : h163.rt = false := rfl
@[simp] theorem h163_inv : h163.inv = [] := rfl
@[simp] theorem h163_mv : h163.mv = [] := rfl
def h164 : Hint where
  vars := [0, 2]
  conds := []
  steal := [5, 9, 10]
  live := []
  roots := []
  rets := true
  glob := []
  sw := []
  msd := []
  alt := []
  fz := 0
  gc := false
  wk := false
  rt := false
  inv := []
  mv := []
@[simp] theorem h164_vars : h164.vars = [0, 2] := rfl
@[simp] theorem h164_conds : h164.conds = [] := rfl
@[simp] theorem h164_steal : h164.steal = [5, 9, 10] := rfl
@[simp] theorem h164_live : h164.live = [] := rfl
@[simp] theorem h164_roots : h164.roots = [] := rfl
@[simp] theorem h164_rets : h164.rets = true := rfl
@[simp] theorem h164_glob : h164.glob = [] := rfl
@[simp] theorem h164_sw : h164.sw = [] := rfl
@[simp] theorem h164_msd : h164.msd = [] := rfl
@[simp] theorem h164_alt : h164.alt = [] := rfl
@[simp] theorem h164_fz : h164.fz = 0 := rfl
@[simp] theorem h164_gc : h164.gc = false := rfl
@[simp] theorem h164_wk : h164.wk = false := rfl
@[simp] theorem h164_rt : h164.rt = false := rfl
@[simp] theorem h164_inv : h164.inv = [] := rfl
@[simp] theorem h164_mv : h164.mv = [] := rfl
def h165 : Hint where
  vars := [0, 2]
  conds := []
  steal := [5, 6]
  live := []
  roots := []
  rets := true
  glob := []
  sw := []
  msd := []
  alt := []
  fz := 0
  gc := false
  wk := false
  rt := false
  inv := []
  mv := []
@[simp] theorem h165_vars : h165.vars = [0, 2] := rfl
@[simp] theorem h165_conds : h165.conds = [] := rfl
@[simp] theorem h165_steal : h165.steal = [5, 6] := rfl
@[simp] theorem h165_live : h165.live = [] := rfl
@[simp] theorem h165_roots : h165.roots = [] := rfl
@[simp] theorem h165_rets : h165.rets = true := rfl
@[simp] theorem h165_glob : h165.glob = [] := rfl
@[simp] theorem h165_sw : h165.sw = [] := rfl
@[simp] theorem h165_msd : h165.msd = [] := rfl
@[simp] theorem h165_alt : h165.alt = [] := rfl
@[simp] theorem h165_fz : h165.fz = 0 := rfl
@[simp] theorem h165_gc : h165.gc = false := rfl
@[simp] theorem h165_wk : h165.wk = false := rfl
@[simp] theorem h165_rt : h165.rt = false := rfl
@[simp] theorem h165_inv : h165.inv = [] := rfl
@[simp] theorem h165_mv : h165.mv = [] := rfl
def h166 : Hint where
  vars := [0, 1, 4, 5]
  conds := [9, 16]
  steal := [10]
  live := [(2, [0, 1, 5])]
  roots := []
  rets := true
  glob := []
  sw := []
  msd := []
  alt := []
  fz := 0
  gc := true
  wk := false
  rt := false
  inv := []
  mv := []
@[simp] theorem h166_vars : h166.vars = [0, 1, 4, 5] := rfl
@[simp] theorem h166_conds : h166.conds = [9, 16] := rfl
@[simp] theorem h166_steal : h166.steal = [10] := rfl
@[simp] theorem h166_live : h166.live = [(2, [0, 1, 5])] := rfl
@[simp] theorem h166_roots : h166.roots = [] := rfl
@[simp] theorem h166_rets : h166.rets = true := rfl
@[simp] theorem h166_glob : h166.glob = [] := rfl
@[simp] theorem h166_sw : h166.sw = [] := rfl
@[simp] theorem h166_msd : h166.msd = [] := rfl
@[simp] theorem h166_alt : h166.alt = [] := rfl
@[simp] theorem h166_fz : h166.fz = 0 := rfl
@[simp] theorem h166_gc : h166.gc = true := rfl
@[simp] theorem h166_wk : h166.wk = false := rfl
@[simp] theorem h166_rt : h166.rt = false := rfl
@[simp] theorem h166_inv : h166.inv = [] := rfl
@[simp] theorem h166_mv : h166.mv = [] := rfl
def h168 : Hint where
  vars := [0, 2, 3, 4, 5, 6, 7, 8]
  conds := [12, 36]
  steal := [13, 14, 21, 22, 23, 26, 27, 29, 30, 33, 37, 38, 39, 41]
  live := []
  roots := []
  rets := true
  glob := []
  sw := []
  msd := []
  alt := []
  fz := 0
  gc := false
  wk := false
  rt := false
  inv := []
  mv := []
@[simp] theorem h168_vars : h168.vars = [0, 2, 3, 4, 5, 6, 7, 8] := rfl
@[simp] theorem h168_conds : h168.conds = [12, 36] := rfl
@[simp] theorem h168_steal : h168.steal = [13, 14, 21, 22, 23, 26, 27, 29, 30, 33, 37, 38, 39, 41] := rfl
@[simp] theorem h168_live : h168.live = [] := rfl
@[simp] theorem h168_roots : h168.roots = [] := rfl
@[simp] theorem h168_rets : h168.rets = true := rfl
@[simp] theorem h168_glob : h168.glob = [] := rfl
@[simp] theorem h168_sw : h168.sw = [] := rfl
@[simp] theorem h168_msd : h168.msd = [] := rfl
@[simp] theorem h168_alt : h168.alt = [] := rfl
@[simp] theorem h168_fz : h168.fz = 0 := rfl
@[simp] theorem h168_gc : h168.gc = false := rfl
@[simp] theorem h168_wk : h168.wk = false := rfl
@[simp] theorem h168_rt : h168.rt = false := rfl
@[simp] theorem h168_inv : h168.inv = [] := rfl
@[simp] theorem h168_mv : h168.mv = [] := rfl
def h169 : Hint where
  vars := [0, 1, 4, 5]
  conds := [9, 17]
  steal := [10, 18]
  live := [(2, [0, 1, 5])]
  roots := []
  rets := true
  glob := []
  sw := []
  msd := []
  alt := []
  fz := 0
  gc := true
  wk := false
  rt := false
  inv := []
  mv := []
@[simp] theorem h169_vars : h169.vars = [0, 1, 4, 5] := rfl
@[simp] theorem h169_conds : h169.conds = [9, 17] := rfl
@[simp] theorem h169_steal : h169.steal = [10, 18] := rfl
@[simp] theorem h169_live : h169.live = [(2, [0, 1, 5])] := rfl
@[simp] theorem h169_roots : h169.roots = [] := rfl
@[simp] theorem h169_rets : h169.rets = true := rfl
@[simp] theorem h169_glob : h169.glob = [] := rfl
@[simp] theorem h169_sw : h169.sw = [] := rfl
@[simp] theorem h169_msd : h169.msd = [] := rfl
@[simp] theorem h169_alt : h169.alt = [] := rfl
@[simp] theorem h169_fz : h169.fz = 0 := rfl
@[simp] theorem h169_gc : h169.gc = true := rfl
@[simp] theorem h169_wk : h169.wk = false := rfl
@[simp] theorem h169_rt : h169.rt = false := rfl
@[simp] theorem h169_inv : h169.inv = [] := rfl
@[simp] theorem h169_mv : h169.mv = [] := rfl
def h170 : Hint where
  vars := [0, 2]
  conds := []
  steal := [5, 6]
  live := []
  roots := []
  rets := true
  glob := []
  sw := []
  msd := []
  alt := []
  fz := 0
  gc := false
  wk := false
  rt := false
  inv := []
  mv := []
@[simp] theorem h170_vars : h170.vars = [0, 2] := rfl
@[simp] theorem h170_conds : h170.conds = [] := rfl
@[simp] theorem h170_steal : h170.steal = [5, 6] := rfl
@[simp] theorem h170_live : h170.live = [] := rfl
@[simp] theorem h170_roots : h170.roots = [] := rfl
@[simp] theorem h170_rets : h170.rets = true := rfl
@[simp] theorem h170_glob : h170.glob = [] := rfl
@[simp] theorem h170_sw : h170.sw = [] := rfl
@[simp] theorem h170_msd : h170.msd = [] := rfl
@[simp] theorem h170_alt : h170.alt = [] := rfl
@[simp] theorem h170_fz : h170.fz = 0 := rfl
@[simp] theorem h170_gc : h170.gc = false := rfl
@[simp] theorem h170_wk : h170.wk = false := rfl
@[simp] theorem h170_rt : h170.rt = false := rfl
@[simp] theorem h170_inv : h170.inv = [] := rfl
@[simp] theorem h170_mv : h170.mv = [] := rfl
def h171 : Hint where
  vars := [0, 2, 3, 4, 5, 6, 7, 8, 9, 10, 11, 12, 13]
  conds := [21, 34, 74]
  steal := [17, 23, 24, 29, 30, 36, 42, 43, 49, 50, 51, 56, 57, 59, 60, 63, 64, 67, 68, 69, 76, 77, 78, 79]
  live := []
  roots := []
  rets := true
  glob := []
  sw := []
  msd := []
  alt := []
  fz := 0
  gc := false
  wk := false
  rt := false
  inv := []
  mv := []
@[simp] theorem h171_vars : h171.vars = [0, 2, 3, 4, 5, 6, 7, 8, 9, 10, 11, 12, 13] := rfl
@[simp] theorem h171_conds : h171.conds = [21, 34, 74] := rfl
@[simp] theorem h171_steal : h171.steal = [17, 23, 24, 29, 30, 36, 42, 43, 49, 50, 51, 56, 57, 59, 60, 63, 64, 67, 68, 69, 76, 77, 78, 79] := rfl
@[simp] theorem h171_live : h171.live = [] := rfl
@[simp] theorem h171_roots : h171.roots = [] := rfl
@[simp] theorem h171_rets : h171.rets = true := rfl
@[simp] theorem h171_glob : h171.glob = [] := rfl
@[simp] theorem h171_sw : h171.sw = [] := rfl
@[simp] theorem h171_msd : h171.msd = [] := rfl
@[simp] theorem h171_alt : h171.alt = [] := rfl
@[simp] theorem h171_fz : h171.fz = 0 := rfl
@[simp] theorem h171_gc : h171.gc = false := rfl
@[simp] theorem h171_wk : h171.wk = false := rfl
@[simp] theorem h171_rt : h171.rt = false := rfl
@[simp] theorem h171_inv : h171.inv = [] := rfl
@[simp] theorem h171_mv : h171.mv = [] := rfl
def h174 : Hint where
  vars := [0, 2, 3]
  conds := [7, 14]
  steal := [8, 15]
  live := [(2, [0, 3])]
  roots := []
  rets := true
  glob := []
  sw := []
  msd := []
  alt := []
  fz := 0
  gc := false
  wk := false
  rt := false
  inv := []
  mv := []
@[simp] theorem h174_vars : h174.vars = [0, 2, 3] := rfl
@[simp] theorem h174_conds : h174.conds = [7, 14] := rfl
@[simp] theorem h174_steal : h174.steal = [8, 15] := rfl
@[simp] theorem h174_live : h174.live = [(2, [0, 3])] := rfl
@[simp] theorem h174_roots : h174.roots = [] := rfl
@[simp] theorem h174_rets : h174.rets = true := rfl
@[simp] theorem h174_glob : h174.glob = [] := rfl
@[simp] theorem h174_sw : h174.sw = [] := rfl
@[simp] theorem h174_msd : h174.msd = [] := rfl
@[simp] theorem h174_alt : h174.alt = [] := rfl
@[simp] theorem h174_fz : h174.fz = 0 := rfl
@[simp] theorem h174_gc : h174.gc = false := rfl
@[simp] theorem h174_wk : h174.wk = false := rfl
@[simp] theorem h174_rt : h174.rt = false := rfl
@[simp] theorem h174_inv : h174.inv = [] := rfl
@[simp] theorem h174_mv : h174.mv = [] := rfl
def h175 : Hint where
  vars := [0, 2, 3, 4, 5, 6, 7, 8, 9, 10, 11, 12, 13, 14, 15, 17, 19]
  conds := [32, 38, 44, 77, 78, 84, 93]
  steal := [24, 28, 33, 39, 49, 50, 52, 57, 64, 71, 78, 85, 92, 94, 100, 101, 107, 108, 109, 114, 115, 116, 117, 118]
  live := [(7, [7, 8, 9, 10]), (19, [8, 11, 12, 13])]
  roots := []
  rets := true
  glob := []
  sw := []
  msd := []
  alt := []
  fz := 0
  gc := false
  wk := false
  rt := false
  inv := []
  mv := []
@[simp] theorem h175_vars : h175.vars = [0, 2, 3, 4, 5, 6, 7, 8, 9, 10, 11, 12, 13, 14, 15, 17, 19] := rfl
@[simp] theorem h175_conds : h175.conds = [32, 38, 44, 77, 78, 84, 93] := rfl
@[simp] theorem h175_steal : h175.steal = [24, 28, 33, 39, 49, 50, 52, 57, 64, 71, 78, 85, 92, 94, 100, 101, 107, 108, 109, 114, 115, 116, 117, 118] := rfl
@[simp] theorem h175_live : h175.live = [(7, [7, 8, 9, 10]), (19, [8, 11, 12, 13])] := rfl
@[simp] theorem h175_roots : h175.roots = [] := rfl
@[simp] theorem h175_rets : h175.rets = true := rfl
@[simp] theorem h175_glob : h175.glob = [] := rfl
@[simp] theorem h175_sw : h175.sw = [] := rfl
@[simp] theorem h175_msd : h175.msd = [] := rfl
@[simp] theorem h175_alt : h175.alt = [] := rfl
@[simp] theorem h175_fz : h175.fz = 0 := rfl
@[simp] theorem h175_gc : h175.gc = false := rfl
@[simp] theorem h175_wk : h175.wk = false := rfl
@[simp] theorem h175_rt : h175.rt = false := rfl
@[simp] theorem h175_inv : h175.inv = [] := rfl
@[simp] theorem h175_mv : h175.mv = [] := rfl
def h184 : Hint where
  vars := [0, 1, 3]
  conds := []
  steal := [6, 10, 14, 16]
  live := []
  roots := []
  rets := true
  glob := []
  sw := []
  msd := []
  alt := []
  fz := 0
  gc := false
  wk := false
  rt := false
  inv := []
  mv := []
@[simp] theorem h184_vars : h184.vars = [0, 1, 3] := rfl
@[simp] theorem h184_conds : h184.conds = [] := rfl
@[simp] theorem h184_steal : h184.steal = [6, 10, 14, 16] := rfl
@[simp] theorem h184_live : h184.live = [] := rfl
@[simp] theorem h184_roots : h184.roots = [] := rfl
@[simp] theorem h184_rets : h184.rets = true := rfl
@[simp] theorem h184_glob : h184.glob = [] := rfl
@[simp] theorem h184_sw : h184.sw = [] := rfl
@[simp] theorem h184_msd : h184.msd = [] := rfl
@[simp] theorem h184_alt : h184.alt = [] := rfl
@[simp] theorem h184_fz : h184.fz = 0 := rfl
@[simp] theorem h184_gc : h184.gc = false := rfl
@[simp] theorem h184_wk : h184.wk = false := rfl
@[simp] theorem h184_rt : h184.rt = false := rfl
@[simp] theorem h184_inv : h184.inv = [] := rfl
@[simp] theorem h184_mv : h184.mv = [] := rfl
def h185 : Hint where
  vars := [0, 2]
  conds := []
  steal := [5, 6]
  live := []
  roots := []
  rets := true
  glob := []
  sw := []
  msd := []
  alt := []
  fz := 0
  gc := false
  wk := false
  rt := false
  inv := []
  mv := []
@[simp] theorem h185_vars : h185.vars = [0, 2] := rfl
@[simp] theorem h185_conds : h185.conds = [] := rfl
@[simp] theorem h185_steal : h185.steal = [5, 6] := rfl
@[simp] theorem h185_live : h185.live = [] := rfl
@[simp] theorem h185_roots : h185.roots = [] := rfl
@[simp] theorem h185_rets : h185.rets = true := rfl
@[simp] theorem h185_glob : h185.glob = [] := rfl
@[simp] theorem h185_sw : h185.sw = [] := rfl
@[simp] theorem h185_msd : h185.msd = [] := rfl
@[simp] theorem h185_alt : h185.alt = [] := rfl
@[simp] theorem h185_fz : h185.fz = 0 := rfl
@[simp] theorem h185_gc : h185.gc = false := rfl
@[simp] theorem h185_wk : h185.wk = false := rfl
@[simp] theorem h185_rt : h185.rt = false := rfl
@[simp] theorem h185_inv : h185.inv = [] := rfl
@[simp] theorem h185_mv : h185.mv = [] := rfl
def h191 : Hint where
  vars := [0, 2]
  conds := []
  steal := [5, 6]
  live := []
  roots := []
  rets := true
  glob := []
  sw := []
  msd := []
  alt := []
  fz := 0
  gc := false
  wk := false
  rt := false
  inv := []
  mv := []
@[simp] theorem h191_vars : h191.vars = [0, 2] := rfl
@[simp] theorem h191_conds : h191.conds = [] := rfl
@[simp] theorem h191_steal : h191.steal = [5, 6] := rfl
@[simp] theorem h191_live : h191.live = [] := rfl
@[simp] theorem h191_roots : h191.roots = [] := rfl
@[simp] theorem h191_rets : h191.rets = true := rfl
@[simp] theorem h191_glob : h191.glob = [] := rfl
@[simp] theorem h191_sw : h191.sw = [] := rfl
@[simp] theorem h191_msd : h191.msd = [] := rfl
@[simp] theorem h191_alt : h191.alt = [] := rfl
@[simp] theorem h191_fz : h191.fz = 0 := rfl
@[simp] theorem h191_gc : h191.gc = false := rfl
@[simp] theorem h191_wk : h191.wk = false := rfl
@[simp] theorem h191_rt : h191.rt = false := rfl
@[simp] theorem h191_inv : h191.inv = [] := rfl
@[simp] theorem h191_mv : h191.mv = [] := rfl
def h192 : Hint where
  vars := [0, 2]
  conds := []
  steal := [5, 6]
  live := []
  roots := []
  rets := true
  glob := []
  sw := []
  msd := []
  alt := []
  fz := 0
  gc := false
  wk := false
  rt := false
  inv := []
  mv := []
@[simp] theorem h192_vars : h192.vars = [0, 2] := rfl
@[simp] theorem h192_conds : h192.conds = [] := rfl
@[simp] theorem h192_steal : h192.steal = [5, 6] := rfl
@[simp] theorem h192_live : h192.live = [] := rfl
@[simp] theorem h192_roots : h192.roots = [] := rfl
@[simp] theorem h192_rets : h192.rets = true := rfl
@[simp] theorem h192_glob : h192.glob = [] := rfl
@[simp] theorem h192_sw : h192.sw = [] := rfl
@[simp] theorem h192_msd : h192.msd = [] := rfl
@[simp] theorem h192_alt : h192.alt = [] := rfl
@[simp] theorem h192_fz : h192.fz = 0 := rfl
@[simp] theorem h192_gc : h192.gc = false := rfl
@[simp] theorem h192_wk : h192.wk = false := rfl
@[simp] theorem h192_rt : h192.rt = false := rfl
@[simp] theorem h192_inv : h192.inv = [] := rfl
@[simp] theorem h192_mv : h192.mv = [] := rfl
def h193 : Hint where
  vars := [0, 2]
  conds := []
  steal := [5, 6]
  live := []
  roots := []
  rets := true
  glob := []
  sw := []
  msd := []
  alt := []
  fz := 0
  gc := false
  wk := false
  rt := false
  inv := []
  mv := []
@[simp] theorem h193_vars : h193.vars = [0, 2] := rfl
@[simp] theorem h193_conds : h193.conds = [] := rfl
@[simp] theorem h193_steal : h193.steal = [5, 6] := rfl
@[simp] theorem h193_live : h193.live = [] := rfl
@[simp] theorem h193_roots : h193.roots = [] := rfl
@[simp] theorem h193_rets : h193.rets = true := rfl
@[simp] theorem h193_glob : h193.glob = [] := rfl
@[simp] theorem h193_sw : h193.sw = [] := rfl
@[simp] theorem h193_msd : h193.msd = [] := rfl
@[simp] theorem h193_alt : h193.alt = [] := rfl
@[simp] theorem h193_fz : h193.fz = 0 := rfl
@[simp] theorem h193_gc : h193.gc = false := rfl
@[simp] theorem h193_wk : h193.wk = false := rfl
@[simp] theorem h193_rt : h193.rt = false := rfl
@[simp] theorem h193_inv : h193.inv = [] := rfl
@[simp] theorem h193_mv : h193.mv = [] := rfl
def h194 : Hint where
  vars := [0, 1, 4]
  conds := [7, 10]
  steal := [8, 9]
  live := []
  roots := []
  rets := true
  glob := []
  sw := []
  msd := []
  alt := []
  fz := 0
  gc := false
  wk := false
  rt := false
  inv := []
  mv := []
@[simp] theorem h194_vars : h194.vars = [0, 1, 4] := rfl
@[simp] theorem h194_conds : h194.conds = [7, 10] := rfl
@[simp] theorem h194_steal : h194.steal = [8, 9] := rfl
@[simp] theorem h194_live : h194.live = [] := rfl
@[simp] theorem h194_roots : h194.roots = [] := rfl
@[simp] theorem h194_rets : h194.rets = true := rfl
@[simp] theorem h194_glob : h194.glob = [] := rfl
@[simp] theorem h194_sw : h194.sw = [] := rfl
@[simp] theorem h194_msd : h194.msd = [] := rfl
@[simp] theorem h194_alt : h194.alt = [] := rfl
@[simp] theorem h194_fz : h194.fz = 0 := rfl
@[simp] theorem h194_gc : h194.gc = false := rfl
@[simp] theorem h194_wk : h194.wk = false := rfl
@[simp] theorem h194_rt : h194.rt = false := rfl
@[simp] theorem h194_inv : h194.inv = [] := rfl
@[simp] theorem h194_mv : h194.mv = [] := rfl
def h195 : Hint where
  vars := [0, 1, 4]
  conds := [7, 10]
  steal := [8, 9]
  live := []
  roots := []
  rets := true
  glob := []
  sw := []
  msd := []
  alt := []
  fz := 0
  gc := false
  wk := false
  rt := false
  inv := []
  mv := []
@[simp] theorem h195_vars : h195.vars = [0, 1, 4] := rfl
@[simp] theorem h195_conds : h195.conds = [7, 10] := rfl
@[simp] theorem h195_steal : h195.steal = [8, 9] := rfl
@[simp] theorem h195_live : h195.live = [] := rfl
@[simp] theorem h195_roots : h195.roots = [] := rfl
@[simp] theorem h195_rets : h195.rets = true := rfl
@[simp] theorem h195_glob : h195.glob = [] := rfl
@[simp] theorem h195_sw : h195.sw = [] := rfl
@[simp] theorem h195_msd : h195.msd = [] := rfl
@[simp] theorem h195_alt : h195.alt = [] := rfl
@[simp] theorem h195_fz : h195.fz = 0 := rfl
@[simp] theorem h195_gc : h195.gc = false := rfl
@[simp] theorem h195_wk : h195.wk = false := rfl
@[simp] theorem h195_rt : h195.rt = false := rfl
@[simp] theorem h195_inv : h195.inv = [] := rfl
@[simp] theorem h195_mv : h195.mv = [] := rfl
def h196 : Hint where
  vars := [0, 2]
  conds := [3]
  steal := [3]
  live := []
  roots := []
  rets := true
  glob := []
  sw := []
  msd := []
  alt := []
  fz := 0
  gc := false
  wk := false
  rt := false
  inv := []
  mv := []
@[simp] theorem h196_vars : h196.vars = [0, 2] := rfl
@[simp] theorem h196_conds : h196.conds = [3] := rfl
@[simp] theorem h196_steal : h196.steal = [3] := rfl
@[simp] theorem h196_live : h196.live = [] := rfl
@[simp] theorem h196_roots : h196.roots = [] := rfl
@[simp] theorem h196_rets : h196.rets = true := rfl
@[simp] theorem h196_glob : h196.glob = [] := rfl
@[simp] theorem h196_sw : h196.sw = [] := rfl
@[simp] theorem h196_msd : h196.msd = [] := rfl
@[simp] theorem h196_alt : h196.alt = [] := rfl
@[simp] theorem h196_fz : h196.fz = 0 := rfl
@[simp] theorem h196_gc : h196.gc = false := rfl
@[simp] theorem h196_wk : h196.wk = false := rfl
@[simp] theorem h196_rt : h196.rt = false := rfl
@[simp] theorem h196_inv : h196.inv = [] := rfl
@[simp] theorem h196_mv : h196.mv = [] := rfl
def h197 : Hint where
  vars := [0, 1, 4, 5, 6]
  conds := [14, 19, 30, 31]
  steal := [12, 20, 22, 25, 26, 29, 31, 32, 33]
  live := []
  roots := []
  rets := true
  glob := []
  sw := []
  msd := []
  alt := []
  fz := 0
  gc := false
  wk := false
  rt := false
  inv := []
  mv := []
@[simp] theorem h197_vars : h197.vars = [0, 1, 4, 5, 6] := rfl
@[simp] theorem h197_conds : h197.conds = [14, 19, 30, 31] := rfl
@[simp] theorem h197_steal : h197.steal = [12, 20, 22, 25, 26, 29, 31, 32, 33] := rfl
@[simp] theorem h197_live : h197.live = [] := rfl
@[simp] theorem h197_roots : h197.roots = [] := rfl
@[simp] theorem h197_rets : h197.rets = true := rfl
@[simp] theorem h197_glob : h197.glob = [] := rfl
@[simp] theorem h197_sw : h197.sw = [] := rfl
@[simp] theorem h197_msd : h197.msd = [] := rfl
@[simp] theorem h197_alt : h197.alt = [] := rfl
@[simp] theorem h197_fz : h197.fz = 0 := rfl
@[simp] theorem h197_gc : h197.gc = false := rfl
@[simp] theorem h197_wk : h197.wk = false := rfl
@[simp] theorem h197_rt : h197.rt = false := rfl
@[simp] theorem h197_inv : h197.inv = [] := rfl
@[simp] theorem h197_mv : h197.mv = [] := rfl
def h198 : Hint where
  vars := [0, 1, 2, 3, 4, 10, 11]
  conds := [20, 23]
  steal := [13, 15, 32, 47, 50, 54, 55, 56]
  live := [(2, [0, 2, 4, 10, 11])]
  roots := []
  rets := true
  glob := []
  sw := []
  msd := []
  alt := []
  fz := 0
  gc := false
  wk := false
  rt := false
  inv := []
  mv := []
@[simp] theorem h198_vars : h198.vars = [0, 1, 2, 3, 4, 10, 11] := rfl
@[simp] theorem h198_conds : h198.conds = [20, 23] := rfl
@[simp] theorem h198_steal : h198.steal = [13, 15, 32, 47, 50, 54, 55, 56] := rfl
@[simp] theorem h198_live : h198.live = [(2, [0, 2, 4, 10, 11])] := rfl
@[simp] theorem h198_roots : h198.roots = [] := rfl
@[simp] theorem h198_rets : h198.rets = true := rfl
@[simp] theorem h198_glob : h198.glob = [] := rfl
@[simp] theorem h198_sw : h198.sw = [] := rfl
@[simp] theorem h198_msd : h198.msd = [] := rfl
@[simp] theorem h198_alt : h198.alt = [] := rfl
@[simp] theorem h198_fz : h198.fz = 0 := rfl
@[simp] theorem h198_gc : h198.gc = false := rfl
@[simp] theorem h198_wk : h198.wk = false := rfl
@[simp] theorem h198_rt : h198.rt = false := rfl
@[simp] theorem h198_inv : h198.inv = [] := rfl
@[simp] theorem h198_mv : h198.mv = [] := rfl
def h200 : Hint where
  vars := [0, 1, 4]
  conds := [10]
  steal := [7, 11, 14, 18, 20]
  live := []
  roots := []
  rets := true
  glob := []
  sw := []
  msd := []
  alt := []
  fz := 0
  gc := false
  wk := false
  rt := false
  inv := []
  mv := []
@[simp] theorem h200_vars : h200.vars = [0, 1, 4] := rfl
@[simp] theorem h200_conds : h200.conds = [10] := rfl
@[simp] theorem h200_steal : h200.steal = [7, 11, 14, 18, 20] := rfl
@[simp] theorem h200_live : h200.live = [] := rfl
@[simp] theorem h200_roots : h200.roots = [] := rfl
@[simp] theorem h200_rets : h200.rets = true := rfl
@[simp] theorem h200_glob : h200.glob = [] := rfl
@[simp] theorem h200_sw : h200.sw = [] := rfl
@[simp] theorem h200_msd : h200.msd = [] := rfl
@[simp] theorem h200_alt : h200.alt = [] := rfl
@[simp] theorem h200_fz : h200.fz = 0 := rfl
@[simp] theorem h200_gc : h200.gc = false := rfl
@[simp] theorem h200_wk : h200.wk = false := rfl
@[simp] theorem h200_rt : h200.rt = false := rfl
@[simp] theorem h200_inv : h200.inv = [] := rfl
@[simp] theorem h200_mv : h200.mv = [] := rfl
def h203 : Hint where
  vars := [0, 2, 3, 4, 5]
  conds := [18]
  steal := [9, 14, 19, 20, 23]
  live := []
  roots := []
  rets := true
  glob := []
  sw := []
  msd := []
  alt := []
  fz := 0
  gc := false
  wk := false
  rt := false
  inv := []
  mv := []
@[simp] theorem h203_vars : h203.vars = [0, 2, 3, 4, 5] := rfl
@[simp] theorem h203_conds : h203.conds = [18] := rfl
@[simp] theorem h203_steal : h203.steal = [9, 14, 19, 20, 23] := rfl
@[simp] theorem h203_live : h203.live = [] := rfl
@[simp] theorem h203_roots : h203.roots = [] := rfl
@[simp] theorem h203_rets : h203.rets = true := rfl
@[simp] theorem h203_glob : h203.glob = [] := rfl
@[simp] theorem h203_sw : h203.sw = [] := rfl
@[simp] theorem h203_msd : h203.msd = [] := rfl
@[simp] theorem h203_alt : h203.alt = [] := rfl
@[simp] theorem h203_fz : h203.fz = 0 := rfl
@[simp] theorem h203_gc : h203.gc = false := rfl
@[simp] theorem h203_wk : h203.wk = false := rfl
@[simp] theorem h203_rt : h203.rt = false := rfl
@[simp] theorem h203_inv : h203.inv = [] := rfl
@[simp] theorem h203_mv : h203.mv = [] := rfl
def h204 : Hint where
  vars := [0, 2, 4, 6, 7, 8]
  conds := [9, 24]
  steal := [5, 16, 19, 20]
  live := [(2, [6, 7, 8])]
  roots := []
  rets := true
  glob := []
  sw := []
  msd := []
  alt := []
  fz := 0
  gc := true
  wk := false
  rt := false
  inv := []
  mv := []
@[simp] theorem h204_vars : h204.vars = [0, 2, 4, 6, 7, 8] := rfl
@[simp] theorem h204_conds : h204.conds = [9, 24] := rfl
@[simp] theorem h204_steal : h204.steal = [5, 16, 19, 20] := rfl
@[simp] theorem h204_live : h204.live = [(2, [6, 7, 8])] := rfl
@[simp] theorem h204_roots : h204.roots = [] := rfl
@[simp] theorem h204_rets : h204.rets = true := rfl
@[simp] theorem h204_glob : h204.glob = [] := rfl
@[simp] theorem h204_sw : h204.sw = [] := rfl
@[simp] theorem h204_msd : h204.msd = [] := rfl
@[simp] theorem h204_alt : h204.alt = [] := rfl
@[simp] theorem h204_fz : h204.fz = 0 := rfl
@[simp] theorem h204_gc : h204.gc = true := rfl
@[simp] theorem h204_wk : h204.wk = false := rfl
@[simp] theorem h204_rt : h204.rt = false := rfl
@[simp] theorem h204_inv : h204.inv = [] := rfl
@[simp] theorem h204_mv : h204.mv = [] := rfl
def h205 : Hint where
  vars := [0, 2]
  conds := []
  steal := [5, 10, 13, 14]
  live := []
  roots := []
  rets := true
  glob := []
  sw := []
  msd := []
  alt := []
  fz := 0
  gc := false
  wk := false
  rt := false
  inv := []
  mv := []
@[simp] theorem h205_vars : h205.vars = [0, 2] := rfl
@[simp] theorem h205_conds : h205.conds = [] := rfl
@[simp] theorem h205_steal : h205.steal = [5, 10, 13, 14] := rfl
@[simp] theorem h205_live : h205.live = [] := rfl
@[simp] theorem h205_roots : h205.roots = [] := rfl
@[simp] theorem h205_rets : h205.rets = true := rfl
@[simp] theorem h205_glob : h205.glob = [] := rfl
@[simp] theorem h205_sw : h205.sw = [] := rfl
@[simp] theorem h205_msd : h205.msd = [] := rfl
@[simp] theorem h205_alt : h205.alt = [] := rfl
@[simp] theorem h205_fz : h205.fz = 0 := rfl
@[simp] theorem h205_gc : h205.gc = false := rfl
@[simp] theorem h205_wk : h205.wk = false := rfl
@[simp] theorem h205_rt : h205.rt = false := rfl
@[simp] theorem h205_inv : h205.inv = [] := rfl
@[simp] theorem h205_mv : h205.mv = [] := rfl
def h206 : Hint where
  vars := [0, 2, 3, 4, 5, 6, 7, 8]
  conds := [18, 44, 48, 60, 70, 75, 78]
  steal := [12, 19, 23, 28, 32, 38, 40, 49, 55, 71, 73, 75, 76, 79]
  live := [(9, [4, 5, 6, 7])]
  roots := []
  rets := true
  glob := []
  sw := []
  msd := []
  alt := []
  fz := 0
  gc := false
  wk := false
  rt := false
  inv := []
  mv := []
@[simp] theorem h206_vars : h206.vars = [0, 2, 3, 4, 5, 6, 7, 8] := rfl
@[simp] theorem h206_conds : h206.conds = [18, 44, 48, 60, 70, 75, 78] := rfl
@[simp] theorem h206_steal : h206.steal = [12, 19, 23, 28, 32, 38, 40, 49, 55, 71, 73, 75, 76, 79] := rfl
@[simp] theorem h206_live : h206.live = [(9, [4, 5, 6, 7])] := rfl
@[simp] theorem h206_roots : h206.roots = [] := rfl
@[simp] theorem h206_rets : h206.rets = true := rfl
@[simp] theorem h206_glob : h206.glob = [] := rfl
@[simp] theorem h206_sw : h206.sw = [] := rfl
@[simp] theorem h206_msd : h206.msd = [] := rfl
@[simp] theorem h206_alt : h206.alt = [] := rfl
@[simp] theorem h206_fz : h206.fz = 0 := rfl
@[simp] theorem h206_gc : h206.gc = false := rfl
@[simp] theorem h206_wk : h206.wk = false := rfl
@[simp] theorem h206_rt : h206.rt = false := rfl
@[simp] theorem h206_inv : h206.inv = [] := rfl
@[simp] theorem h206_mv : h206.mv = [] := rfl
def h207 : Hint where
  vars := [0, 2, 3]
  conds := [7, 34]
  steal := [8, 15, 22, 29, 37, 41, 45, 46]
  live := [(2, [0, 3])]
  roots := []
  rets := true
  glob := []
  sw := []
  msd := []
  alt := []
  fz := 0
  gc := false
  wk := false
  rt := false
  inv := []
  mv := []
@[simp] theorem h207_vars : h207.vars = [0, 2, 3] := rfl
@[simp] theorem h207_conds : h207.conds = [7, 34] := rfl
@[simp] theorem h207_steal : h207.steal = [8, 15, 22, 29, 37, 41, 45, 46] := rfl
@[simp] theorem h207_live : h207.live = [(2, [0, 3])] := rfl
@[simp] theorem h207_roots : h207.roots = [] := rfl
@[simp] theorem h207_rets : h207.rets = true := rfl
@[simp] theorem h207_glob : h207.glob = [] := rfl
@[simp] theorem h207_sw : h207.sw = [] := rfl
@[simp] theorem h207_msd : h207.msd = [] := rfl
@[simp] theorem h207_alt : h207.alt = [] := rfl
@[simp] theorem h207_fz : h207.fz = 0 := rfl
@[simp] theorem h207_gc : h207.gc = false := rfl
@[simp] theorem h207_wk : h207.wk = false := rfl
@[simp] theorem h207_rt : h207.rt = false := rfl
@[simp] theorem h207_inv : h207.inv = [] := rfl
@[simp] theorem h207_mv : h207.mv = [] := rfl
def h223 : Hint where
  vars := [0, 1, 2, 3, 4, 10]
  conds := [13]
  steal := [14]
  live := [(1, [0, 1, 2, 3, 10])]
  roots := []
  rets := true
  glob := []
  sw := [36, 37]
  msd := []
  alt := []
  fz := 0
  gc := false
  wk := false
  rt := false
  inv := []
  mv := []
@[simp] theorem h223_vars : h223.vars = [0, 1, 2, 3, 4, 10] := rfl
@[simp] theorem h223_conds : h223.conds = [13] := rfl
@[simp] theorem h223_steal : h223.steal = [14] := rfl
@[simp] theorem h223_live : h223.live = [(1, [0, 1, 2, 3, 10])] := rfl
@[simp] theorem h223_roots : h223.roots = [] := rfl
@[simp] theorem h223_rets : h223.rets = true := rfl
@[simp] theorem h223_glob : h223.glob = [] := rfl
@[simp] theorem h223_sw : h223.sw = [36, 37] := rfl
@[simp] theorem h223_msd : h223.msd = [] := rfl
@[simp] theorem h223_alt : h223.alt = [] := rfl
@[simp] theorem h223_fz : h223.fz = 0 := rfl
@[simp] theorem h223_gc : h223.gc = false := rfl
@[simp] theorem h223_wk : h223.wk = false := rfl
@[simp] theorem h223_rt : h223.rt = false := rfl
@[simp] theorem h223_inv : h223.inv = [] := rfl
@[simp] theorem h223_mv : h223.mv = [] := rfl
def h225 : Hint where
  vars := [0, 1, 2, 6, 7, 8, 9, 10, 11, 12, 13]
  conds := [14, 21, 31, 38]
  steal := [23, 27, 28, 32, 34, 36]
  live := [(2, [0, 1, 2, 11, 12, 13])]
  roots := []
  rets := true
  glob := []
  sw := []
  msd := []
  alt := []
  fz := 0
  gc := true
  wk := false
  rt := false
  inv := []
  mv := []
@[simp] theorem h225_vars : h225.vars = [0, 1, 2, 6, 7, 8, 9, 10, 11, 12, 13] := rfl
@[simp] theorem h225_conds : h225.conds = [14, 21, 31, 38] := rfl
@[simp] theorem h225_steal : h225.steal = [23, 27, 28, 32, 34, 36] := rfl
@[simp] theorem h225_live : h225.live = [(2, [0, 1, 2, 11, 12, 13])] := rfl
@[simp] theorem h225_roots : h225.roots = [] := rfl
@[simp] theorem h225_rets : h225.rets = true := rfl
@[simp] theorem h225_glob : h225.glob = [] := rfl
@[simp] theorem h225_sw : h225.sw = [] := rfl
@[simp] theorem h225_msd : h225.msd = [] := rfl
@[simp] theorem h225_alt : h225.alt = [] := rfl
@[simp] theorem h225_fz : h225.fz = 0 := rfl
@[simp] theorem h225_gc : h225.gc = true := rfl
@[simp] theorem h225_wk : h225.wk = false := rfl
@[simp] theorem h225_rt : h225.rt = false := rfl
@[simp] theorem h225_inv : h225.inv = [] := rfl
@[simp] theorem h225_mv : h225.mv = [] := rfl
def h226 : Hint where
  vars := [0, 1, 4, 5, 6]
  conds := [11, 26, 28]
  steal := [13, 21, 22, 27, 29, 30, 31]
  live := []
  roots := []
  rets := true
  glob := []
  sw := []
  msd := []
  alt := []
  fz := 0
  gc := false
  wk := false
  rt := false
  inv := []
  mv := []
@[simp] theorem h226_vars : h226.vars = [0, 1, 4, 5, 6] := rfl
@[simp] theorem h226_conds : h226.conds = [11, 26, 28] := rfl
@[simp] theorem h226_steal : h226.steal = [13, 21, 22, 27, 29, 30, 31] := rfl
@[simp] theorem h226_live : h226.live = [] := rfl
@[simp] theorem h226_roots : h226.roots = [] := rfl
@[simp] theorem h226_rets : h226.rets = true := rfl
@[simp] theorem h226_glob : h226.glob = [] := rfl
@[simp] theorem h226_sw : h226.sw = [] := rfl
@[simp] theorem h226_msd : h226.msd = [] := rfl
@[simp] theorem h226_alt : h226.alt = [] := rfl
@[simp] theorem h226_fz : h226.fz = 0 := rfl
@[simp] theorem h226_gc : h226.gc = false := rfl
@[simp] theorem h226_wk : h226.wk = false := rfl
@[simp] theorem h226_rt : h226.rt = false := rfl
@[simp] theorem h226_inv : h226.inv = [] := rfl
@[simp] theorem h226_mv : h226.mv = [] := rfl
def h228 : Hint where
  vars := [0, 2]
  conds := []
  steal := [5, 8, 9]
  live := []
  roots := []
  rets := true
  glob := []
  sw := []
  msd := []
  alt := []
  fz := 0
  gc := false
  wk := false
  rt := false
  inv := []
  mv := []
@[simp] theorem h228_vars : h228.vars = [0, 2] := rfl
@[simp] theorem h228_conds : h228.conds = [] := rfl
@[simp] theorem h228_steal : h228.steal = [5, 8, 9] := rfl
@[simp] theorem h228_live : h228.live = [] := rfl
@[simp] theorem h228_roots : h228.roots = [] := rfl
@[simp] theorem h228_rets : h228.rets = true := rfl
@[simp] theorem h228_glob : h228.glob = [] := rfl
@[simp] theorem h228_sw : h228.sw = [] := rfl
@[simp] theorem h228_msd : h228.msd = [] := rfl
@[simp] theorem h228_alt : h228.alt = [] := rfl
@[simp] theorem h228_fz : h228.fz = 0 := rfl
@[simp] theorem h228_gc : h228.gc = false := rfl
@[simp] theorem h228_wk : h228.wk = false := rfl
@[simp] theorem h228_rt : h228.rt = false := rfl
@[simp] theorem h228_inv : h228.inv = [] := rfl
@[simp] theorem h228_mv : h228.mv = [] := rfl
def h100037 : Hint where
  vars := [0, 1, 4, 5, 6, 7]
  conds := [11, 24]
  steal := [12, 18, 25, 27, 34]
  live := [(4, [0, 1, 5, 6, 7])]
  roots := []
  rets := true
  glob := [31]
  sw := []
  msd := [31]
  alt := []
  fz := 0
  gc := false
  wk := false
  rt := false
  inv := []
  mv := []
@[simp] theorem h100037_vars : h100037.vars = [0, 1, 4, 5, 6, 7] := rfl
@[simp] theorem h100037_conds : h100037.conds = [11, 24] := rfl
@[simp] theorem h100037_steal : h100037.steal = [12, 18, 25, 27, 34] := rfl
@[simp] theorem h100037_live : h100037.live = [(4, [0, 1, 5, 6, 7])] := rfl
@[simp] theorem h100037_roots : h100037.roots = [] := rfl
@[simp] theorem h100037_rets : h100037.rets = true := rfl
@[simp] theorem h100037_glob : h100037.glob = [31] := rfl
@[simp] theorem h100037_sw : h100037.sw = [] := rfl
@[simp] theorem h100037_msd : h100037.msd = [31] := rfl
@[simp] theorem h100037_alt : h100037.alt = [] := rfl
@[simp] theorem h100037_fz : h100037.fz = 0 := rfl
@[simp] theorem h100037_gc : h100037.gc = false := rfl
@[simp] theorem h100037_wk : h100037.wk = false := rfl
@[simp] theorem h100037_rt : h100037.rt = false := rfl
@[simp] theorem h100037_inv : h100037.inv = [] := rfl
@[simp] theorem h100037_mv : h100037.mv = [] := rfl
def h100045 : Hint where
  vars := [0, 2, 3]
  conds := []
  steal := [7, 11]
  live := []
  roots := []
  rets := true
  glob := [8]
  sw := []
  msd := [8]
  alt := []
  fz := 0
  gc := false
  wk := false
  rt := false
  inv := []
  mv := []
@[simp] theorem h100045_vars : h100045.vars = [0, 2, 3] := rfl
@[simp] theorem h100045_conds : h100045.conds = [] := rfl
@[simp] theorem h100045_steal : h100045.steal = [7, 11] := rfl
@[simp] theorem h100045_live : h100045.live = [] := rfl
@[simp] theorem h100045_roots : h100045.roots = [] := rfl
@[simp] theorem h100045_rets : h100045.rets = true := rfl
@[simp] theorem h100045_glob : h100045.glob = [8] := rfl
@[simp] theorem h100045_sw : h100045.sw = [] := rfl
@[simp] theorem h100045_msd : h100045.msd = [8] := rfl
@[simp] theorem h100045_alt : h100045.alt = [] := rfl
@[simp] theorem h100045_fz : h100045.fz = 0 := rfl
@[simp] theorem h100045_gc : h100045.gc = false := rfl
@[simp] theorem h100045_wk : h100045.wk = false := rfl
@[simp] theorem h100045_rt : h100045.rt = false := rfl
@[simp] theorem h100045_inv : h100045.inv = [] := rfl
@[simp] theorem h100045_mv : h100045.mv = [] := rfl
def h100013 : Hint where
  vars := [0, 1, 4, 5, 6, 8, 10, 11, 12, 15, 16, 17, 21, 22, 23]
  conds := [18, 24, 42, 44]
  steal := [13, 14, 21, 27, 35, 37, 38, 43, 45, 51]
  live := [(3, [6, 15, 16, 17]), (6, [6, 15, 16, 17, 21, 22, 23])]
  roots := []
  rets := true
  glob := []
  sw := []
  msd := []
  alt := [(52, 1)]
  fz := 0
  gc := false
  wk := false
  rt := false
  inv := []
  mv := []
@[simp] theorem h100013_vars : h100013.vars = [0, 1, 4, 5, 6, 8, 10, 11, 12, 15, 16, 17, 21, 22, 23] := rfl
@[simp] theorem h100013_conds : h100013.conds = [18, 24, 42, 44] := rfl
@[simp] theorem h100013_steal : h100013.steal = [13, 14, 21, 27, 35, 37, 38, 43, 45, 51] := rfl
@[simp] theorem h100013_live : h100013.live = [(3, [6, 15, 16, 17]), (6, [6, 15, 16, 17, 21, 22, 23])] := rfl
@[simp] theorem h100013_roots : h100013.roots = [] := rfl
@[simp] theorem h100013_rets : h100013.rets = true := rfl
@[simp] theorem h100013_glob : h100013.glob = [] := rfl
@[simp] theorem h100013_sw : h100013.sw = [] := rfl
@[simp] theorem h100013_msd : h100013.msd = [] := rfl
@[simp] theorem h100013_alt : h100013.alt = [(52, 1)] := rfl
@[simp] theorem h100013_fz : h100013.fz = 0 := rfl
@[simp] theorem h100013_gc : h100013.gc = false := rfl
@[simp] theorem h100013_wk : h100013.wk = false := rfl
@[simp] theorem h100013_rt : h100013.rt = false := rfl
@[simp] theorem h100013_inv : h100013.inv = [] := rfl
@[simp] theorem h100013_mv : h100013.mv = [] := rfl
def h100018 : Hint where
  vars := [0, 1, 4, 5, 7, 8, 9, 10]
  conds := [11, 17]
  steal := [8, 18, 23]
  live := [(3, [1, 5, 8, 9, 10])]
  roots := []
  rets := true
  glob := [21]
  sw := []
  msd := [21]
  alt := []
  fz := 0
  gc := false
  wk := false
  rt := false
  inv := []
  mv := []
@[simp] theorem h100018_vars : h100018.vars = [0, 1, 4, 5, 7, 8, 9, 10] := rfl
@[simp] theorem h100018_conds : h100018.conds = [11, 17] := rfl
@[simp] theorem h100018_steal : h100018.steal = [8, 18, 23] := rfl
@[simp] theorem h100018_live : h100018.live = [(3, [1, 5, 8, 9, 10])] := rfl
@[simp] theorem h100018_roots : h100018.roots = [] := rfl
@[simp] theorem h100018_rets : h100018.rets = true := rfl
@[simp] theorem h100018_glob : h100018.glob = [21] := rfl
@[simp] theorem h100018_sw : h100018.sw = [] := rfl
@[simp] theorem h100018_msd : h100018.msd = [21] := rfl
@[simp] theorem h100018_alt : h100018.alt = [] := rfl
@[simp] theorem h100018_fz : h100018.fz = 0 := rfl
@[simp] theorem h100018_gc : h100018.gc = false := rfl
@[simp] theorem h100018_wk : h100018.wk = false := rfl
@[simp] theorem h100018_rt : h100018.rt = false := rfl
@[simp] theorem h100018_inv : h100018.inv = [] := rfl
@[simp] theorem h100018_mv : h100018.mv = [] := rfl
def H : FuncId → Hint
  | 3 => h3
  | 4 => h4
  | 11 => h11
  | 12 => h12
  | 13 => h13
  | 14 => h14
  | 15 => h15
  | 16 => h16
  | 17 => h17
  | 18 => h18
  | 19 => h19
  | 20 => h20
  | 21 => h21
  | 22 => h22
  | 23 => h23
  | 27 => h27
  | 31 => h31
  | 37 => h37
  | 45 => h45
  | 46 => h46
  | 47 => h47
  | 48 => h48
  | 49 => h49
  | 50 => h50
  | 51 => h51
  | 53 => h53
  | 55 => h55
  | 59 => h59
  | 60 => h60
  | 64 => h64
  | 82 => h82
  | 83 => h83
  | 84 => h84
  | 85 => h85
  | 86 => h86
  | 87 => h87
  | 88 => h88
  | 91 => h91
  | 93 => h93
  | 94 => h94
  | 127 => h127
  | 128 => h128
  | 129 => h129
  | 130 => h130
  | 134 => h134
  | 135 => h135
  | 136 => h136
  | 151 => h151
  | 152 => h152
  | 158 => h158
  | 159 => h159
  | 160 => h160
  | 161 => h161
  | 162 => h162
  | 163 => h163
  | 164 => h164
  | 165 => h165
  | 166 => h166
  | 168 => h168
  | 169 => h169
  | 170 => h170
  | 171 => h171
  | 174 => h174
  | 175 => h175
  | 184 => h184
  | 185 => h185
  | 191 => h191
  | 192 => h192
  | 193 => h193
  | 194 => h194
  | 195 => h195
  | 196 => h196
  | 197 => h197
  | 198 => h198
  | 200 => h200
  | 203 => h203
  | 204 => h204
  | 205 => h205
  | 206 => h206
  | 207 => h207
  | 223 => h223
  | 225 => h225
  | 226 => h226
  | 228 => h228
  | 100037 => h100037
  | 100045 => h100045
  | 100013 => h100013
  | 100018 => h100018
  | _ => {}
@[simp] theorem H3 : H 3 = h3 := rfl
@[simp] theorem H4 : H 4 = h4 := rfl
@[simp] theorem H11 : H 11 = h11 := rfl
@[simp] theorem H12 : H 12 = h12 := rfl
@[simp] theorem H13 : H 13 = h13 := rfl
@[simp] theorem H14 : H 14 = h14 := rfl
@[simp] theorem H15 : H 15 = h15 := rfl
@[simp] theorem H16 : H 16 = h16 := rfl
@[simp] theorem H17 : H 17 = h17 := rfl
@[simp] theorem H18 : H 18 = h18 := rfl
@[simp] theorem H19 : H 19 = h19 := rfl
@[simp] theorem H20 : H 20 = h20 := rfl
@[simp] theorem H21 : H 21 = h21 := rfl
@[simp] theorem H22 : H 22 = h22 := rfl
@[simp] theorem H23 : H 23 = h23 := rfl
@[simp] theorem H27 : H 27 = h27 := rfl
@[simp] theorem H31 : H 31 = h31 := rfl
@[simp] theorem H37 : H 37 = h37 := rfl
@[simp] theorem H45 : H 45 = h45 := rfl
@[simp] theorem H46 : H 46 = h46 := rfl
@[simp] theorem H47 : H 47 = h47 := rfl
@[simp] theorem H48 : H 48 = h48 := rfl
@[simp] theorem H49 : H 49 = h49 := rfl
@[simp] theorem H50 : H 50 = h50 := rfl
@[simp] theorem H51 : H 51 = h51 := rfl
@[simp] theorem H53 : H 53 = h53 := rfl
@[simp] theorem H55 : H 55 = h55 := rfl
@[simp] theorem H59 : H 59 = h59 := rfl
@[simp] theorem H60 : H 60 = h60 := rfl
@[simp] theorem H64 : H 64 = h64 := rfl
@[simp] theorem H82 : H 82 = h82 := rfl
@[simp] theorem H83 : H 83 = h83 := rfl
@[simp] theorem H84 : H 84 = h84 := rfl
@[simp] theorem H85 : H 85 = h85 := rfl
@[simp] theorem H86 : H 86 = h86 := rfl
@[simp] theorem H87 : H 87 = h87 := rfl
@[simp] theorem H88 : H 88 = h88 := rfl
@[simp] theorem H91 : H 91 = h91 := rfl
@[simp] theorem H93 : H 93 = h93 := rfl
@[simp] theorem H94 : H 94 = h94 := rfl
@[simp] theorem H127 : H 127 = h127 := rfl
@[simp] theorem H128 : H 128 = h128 := rfl
@[simp] theorem H129 : H 129 = h129 := rfl
@[simp] theorem H130 : H 130 = h130 := rfl
@[simp] theorem H134 : H 134 = h134 := rfl
@[simp] theorem H135 : H 135 = h135 := rfl
@[simp] theorem H136 : H 136 = h136 := rfl
@[simp] theorem H151 : H 151 = h151 := rfl
@[simp] theorem H152 : H 152 = h152 := rfl
@[simp] theorem H158 : H 158 = h158 := rfl
@[simp] theorem H159 : H 159 = h159 := rfl
@[simp] theorem H160 : H 160 = h160 := rfl
@[simp] theorem H161 : H 161 = h161 := rfl
@[simp] theorem H162 : H 162 = h162 := rfl
@[simp] theorem H163 : H 163 = h163 := rfl
@[simp] theorem H164 : H 164 = h164 := rfl
@[simp] theorem H165 : H 165 = h165 := rfl
@[simp] theorem H166 : H 166 = h166 := rfl
@[simp] theorem H168 : H 168 = h168 := rfl
@[simp] theorem H169 : H 169 = h169 := rfl
@[simp] theorem H170 : H 170 = h170 := rfl
@[simp] theorem H171 : H 171 = h171 := rfl
@[simp] theorem H174 : H 174 = h174 := rfl
@[simp] theorem H175 : H 175 = h175 := rfl
@[simp] theorem H184 : H 184 = h184 := rfl
@[simp] theorem H185 : H 185 = h185 := rfl
@[simp] theorem H191 : H 191 = h191 := rfl
@[simp] theorem H192 : H 192 = h192 := rfl
@[simp] theorem H193 : H 193 = h193 := rfl
@[simp] theorem H194 : H 194 = h194 := rfl
@[simp] theorem H195 : H 195 = h195 := rfl
@[simp] theorem H196 : H 196 = h196 := rfl
@[simp] theorem H197 : H 197 = h197 := rfl
@[simp] theorem H198 : H 198 = h198 := rfl
@[simp] theorem H200 : H 200 = h200 := rfl
@[simp] theorem H203 : H 203 = h203 := rfl
@[simp] theorem H204 : H 204 = h204 := rfl
@[simp] theorem H205 : H 205 = h205 := rfl
@[simp] theorem H206 : H 206 = h206 := rfl
@[simp] theorem H207 : H 207 = h207 := rfl
@[simp] theorem H223 : H 223 = h223 := rfl
@[simp] theorem H225 : H 225 = h225 := rfl
@[simp] theorem H226 : H 226 = h226 := rfl
@[simp] theorem H228 : H 228 = h228 := rfl
@[simp] theorem H100037 : H 100037 = h100037 := rfl
@[simp] theorem H100045 : H 100045 = h100045 := rfl
@[simp] theorem H100013 : H 100013 = h100013 := rfl
@[simp] theorem H100018 : H 100018 = h100018 := rfl
end Go.Proofs.Tryz.Ai
end
section
/- The table of this seat: the functions that are not evaluated by their own code. -/
namespace Go.Proofs.Tryz.Ai
open Go Go.AI Go.RowKit Go.Proofs
set_option linter.unusedVariables false

noncomputable def T : Table
  | 96 => some copyCheckT
  | 98 => some stringT
  | 107 => some growT
  | 100 => some indexT
  | 199 => some compareT
  | 68 => some countT
  | 248 => some itoaT
  | 143 => some indexST
  | 229 => some atoiT
  | 167 => some lastIndexT
  | 89 => some cutT
  | 52 => some splitT
  | 63 => some cutPrefixT
  | 54 => some cutSuffixT
  | 118 => some hasPrefixT
  | 73 => some containsT
  | 69 => some joinT
  | 71 => some (containsFuncT H)
  | 70 => some trimT
  | _ => none

theorem enters_copyCheck : AI.Enters Tryz.prog 96 := ⟨_, Tryz.func96, by kernel_rfl, by kernel_rfl⟩
theorem enters_String : AI.Enters Tryz.prog 98 := ⟨_, Tryz.func98, by kernel_rfl, by kernel_rfl⟩
theorem enters_Grow : AI.Enters Tryz.prog 107 := ⟨_, Tryz.func107, by kernel_rfl, by kernel_rfl⟩
theorem enters_index : AI.Enters Tryz.prog 100 := ⟨_, Tryz.func100, by kernel_rfl, by kernel_rfl⟩
theorem enters_compare : AI.Enters Tryz.prog 199 := ⟨_, Tryz.func199, by kernel_rfl, by kernel_rfl⟩
theorem enters_count : AI.Enters Tryz.prog 68 := ⟨_, Tryz.func68, by kernel_rfl, by kernel_rfl⟩
theorem enters_Itoa : AI.Enters Tryz.prog 248 := ⟨_, Tryz.func248, by kernel_rfl, by kernel_rfl⟩

theorem T_ok {W0 : World} (hl : LaidAll W0) : TableOk Tryz.prog W0.heap.size W0 T := by
  intro f p hf xs s r s' e
  unfold T at hf
  split at hf
  · injection hf with hf; subst hf; exact ⟨enters_copyCheck, copyCheck_ok e⟩
  · injection hf with hf; subst hf; exact ⟨enters_String, string_ok e⟩
  · injection hf with hf; subst hf; exact ⟨enters_Grow, grow_ok e⟩
  · injection hf with hf; subst hf; exact ⟨enters_index, index_ok e⟩
  · injection hf with hf; subst hf; exact ⟨enters_compare, compare_ok e⟩
  · injection hf with hf; subst hf; exact ⟨enters_count, count_ok e⟩
  · injection hf with hf; subst hf; exact ⟨enters_Itoa, itoa_ok hl.tab e⟩
  · injection hf with hf; subst hf; exact ⟨⟨_, Tryz.func143, by kernel_rfl, by kernel_rfl⟩, indexS_ok hl e⟩
  · injection hf with hf; subst hf; exact ⟨⟨_, Tryz.func229, by kernel_rfl, by kernel_rfl⟩, atoi_ok hl e⟩
  · injection hf with hf; subst hf; exact ⟨⟨_, Tryz.func167, by kernel_rfl, by kernel_rfl⟩, lastIndex_ok e⟩
  · injection hf with hf; subst hf; exact ⟨⟨_, Tryz.func89, by kernel_rfl, by kernel_rfl⟩, cut_ok hl e⟩
  · injection hf with hf; subst hf; exact ⟨⟨_, Tryz.func52, by kernel_rfl, by kernel_rfl⟩, split_ok hl e⟩
  · injection hf with hf; subst hf; exact ⟨⟨_, Tryz.func63, by kernel_rfl, by kernel_rfl⟩, cutPrefix_ok e⟩
  · injection hf with hf; subst hf; exact ⟨⟨_, Tryz.func54, by kernel_rfl, by kernel_rfl⟩, cutSuffix_ok e⟩
  · injection hf with hf; subst hf; exact ⟨⟨_, Tryz.func118, by kernel_rfl, by kernel_rfl⟩, hasPrefix_ok e⟩
  · injection hf with hf; subst hf; exact ⟨⟨_, Tryz.func73, by kernel_rfl, by kernel_rfl⟩, contains_ok hl e⟩
  · injection hf with hf; subst hf; exact ⟨⟨_, Tryz.func69, by kernel_rfl, by kernel_rfl⟩, join_ok e⟩
  · injection hf with hf; subst hf; exact ⟨⟨_, Tryz.func71, by kernel_rfl, by kernel_rfl⟩, containsFunc_ok e⟩
  · injection hf with hf; subst hf; exact ⟨⟨_, Tryz.func70, by kernel_rfl, by kernel_rfl⟩, trim_ok e⟩
  · cases hf

noncomputable abbrev ev : Oracle := EV Tryz.prog H T

theorem ev_index (xs : List AV) (s : List (List AV)) : ev 100 xs s = indexT xs s := EV_table rfl xs s
theorem ev_compare (xs : List AV) (s : List (List AV)) : ev 199 xs s = compareT xs s := EV_table rfl xs s
theorem ev_Atoi (xs : List AV) (s : List (List AV)) : ev 229 xs s = atoiT xs s := EV_table rfl xs s
theorem ev_LastIndex (xs : List AV) (s : List (List AV)) : ev 167 xs s = lastIndexT xs s := EV_table rfl xs s
theorem ev_Cut (xs : List AV) (s : List (List AV)) : ev 89 xs s = cutT xs s := EV_table rfl xs s
theorem ev_Split (xs : List AV) (s : List (List AV)) : ev 52 xs s = splitT xs s := EV_table rfl xs s
theorem ev_CutPrefix (xs : List AV) (s : List (List AV)) : ev 63 xs s = cutPrefixT xs s := EV_table rfl xs s
theorem ev_CutSuffix (xs : List AV) (s : List (List AV)) : ev 54 xs s = cutSuffixT xs s := EV_table rfl xs s
theorem ev_HasPrefix (xs : List AV) (s : List (List AV)) : ev 118 xs s = hasPrefixT xs s := EV_table rfl xs s
theorem ev_Contains (xs : List AV) (s : List (List AV)) : ev 73 xs s = containsT xs s := EV_table rfl xs s
theorem ev_Trim (xs : List AV) (s : List (List AV)) : ev 70 xs s = trimT xs s := EV_table rfl xs s
end Go.Proofs.Tryz.Ai
end
section
/- strings.Builder, walked over its table entries. -/
namespace Go.Proofs.Tryz.Ai
open Go Go.AI Go.Proofs
set_option maxHeartbeats 1000000
set_option linter.unusedVariables false

/-- a Builder's box: fresh, or with a text -/
def bc (b : Nat) : Option (List UInt8) → List AV
  | none => [.nilp, .sl .nil []]
  | some l => [.gp b 0 (some (SB, 2)), .sl (.ex U8 1) (l.map .u8)]
/-- after its text was taken -/
def bs (b : Nat) : Option (List UInt8) → List AV
  | none => [.nilp, .sl .nil []]
  | some l => [.gp b 0 (some (SB, 2)), .sl .sh (l.map .u8)]
def txt (o : Option (List UInt8)) : List UInt8 := o.getD []
@[simp] theorem txt_some (l : List UInt8) : txt (some l) = l := rfl
@[simp] theorem txt_none : txt none = [] := rfl
@[simp] theorem bc_lowL (b : Nat) (o : Option (List UInt8)) (n : Nat) : lowL n (bc b o) ↔ o = none ∨ b < n := by cases o <;> simp [bc]
@[simp] theorem bs_lowL (b : Nat) (o : Option (List UInt8)) (n : Nat) : lowL n (bs b o) ↔ o = none ∨ b < n := by cases o <;> simp [bs]

end Go.Proofs.Tryz.Ai
end
section
/- strconv.Itoa of small numbers; strings.Repeat of two zeros. -/
namespace Go.Proofs.Tryz.Ai
open Go Go.AI Go.Proofs
set_option maxHeartbeats 2000000
set_option linter.unusedVariables false

theorem HasPrefix_eq (a b : List UInt8) (σ) : ev 118 [.str a, .str b] σ = some (.bool (b.isPrefixOf a), σ) := by
  rw [ev_HasPrefix]; rfl
end Go.Proofs.Tryz.Ai
end
section
/- Comparisons of numbers with literals. -/
namespace Go.AI
@[simp] theorem cast_le_lit {n k : Nat} : ((n : Int) ≤ (no_index (OfNat.ofNat k) : Int)) ↔ n ≤ k := by
  show (n : Int) ≤ (k : Int) ↔ n ≤ k; omega
@[simp] theorem lit_le_cast {n k : Nat} : ((no_index (OfNat.ofNat k) : Int) ≤ (n : Int)) ↔ k ≤ n := by
  show (k : Int) ≤ (n : Int) ↔ k ≤ n; omega
@[simp] theorem cast_lt_lit {n k : Nat} : ((n : Int) < (no_index (OfNat.ofNat k) : Int)) ↔ n < k := by
  show (n : Int) < (k : Int) ↔ n < k; omega
@[simp] theorem lit_lt_cast {n k : Nat} : ((no_index (OfNat.ofNat k) : Int) < (n : Int)) ↔ k < n := by
  show (k : Int) < (n : Int) ↔ k < n; omega
@[simp] theorem cast_eq_lit {n k : Nat} : ((n : Int) = (no_index (OfNat.ofNat k) : Int)) ↔ n = k := by
  show (n : Int) = (k : Int) ↔ n = k; omega
@[simp] theorem lit_eq_cast {n k : Nat} : ((no_index (OfNat.ofNat k) : Int) = (n : Int)) ↔ k = n := by
  show (k : Int) = (n : Int) ↔ k = n; omega
@[simp] theorem nonneg_add_lit {n k : Nat} : (0 ≤ (n : Int) + (no_index (OfNat.ofNat k) : Int)) ↔ True := by
  show 0 ≤ (n : Int) + (k : Int) ↔ True; constructor; intro _; trivial; intro _; omega
@[simp] theorem nonneg_add_cast {n k : Nat} : (0 ≤ (n : Int) + (k : Int)) ↔ True := by constructor; intro _; trivial; intro _; omega
@[simp] theorem neg_add_lit {n k : Nat} : ((n : Int) + (no_index (OfNat.ofNat k) : Int) < 0) ↔ False := by
  show (n : Int) + (k : Int) < 0 ↔ False; constructor; intro _; omega; intro h; cases h
@[simp] theorem neg_add_cast {n k : Nat} : ((n : Int) + (k : Int) < 0) ↔ False := by constructor; intro _; omega; intro h; cases h
@[simp] theorem toNat_add_lit {n k : Nat} : ((n : Int) + (no_index (OfNat.ofNat k) : Int)).toNat = n + k := by
  show ((n : Int) + (k : Int)).toNat = n + k; omega
@[simp] theorem toNat_add_cast {n k : Nat} : ((n : Int) + (k : Int)).toNat = n + k := by omega
@[simp] theorem cast_inj' {n k : Nat} : ((n : Int) = (k : Int)) ↔ n = k := by omega
@[simp] theorem cast_lt' {n k : Nat} : ((n : Int) < (k : Int)) ↔ n < k := by omega
@[simp] theorem cast_le' {n k : Nat} : ((n : Int) ≤ (k : Int)) ↔ n ≤ k := by omega
@[simp] theorem u8_inj {n k : UInt8} : n.toNat = k.toNat ↔ n = k := UInt8.toNat_inj
@[simp] theorem u8_lit {a : UInt8} {k : Nat} (h : k < 256) : a.toNat = (no_index (OfNat.ofNat k)) ↔ a = UInt8.ofNat k := by
  show a.toNat = k ↔ _
  constructor
  · intro e; apply UInt8.toNat_inj.1; rw [e]; simp; omega
  · intro e; rw [e]; simp; omega
@[simp] theorem u8_beq {a b : UInt8} : (a == b) = decide (a = b) := by
  by_cases h : a = b <;> simp [h]
end Go.AI
end
section
/- mod's kinds of bytes. -/
namespace Go.Proofs.Tryz.Ai
open Go Go.AI Go.Proofs
set_option maxHeartbeats 1000000
set_option linter.unusedVariables false

theorem digit_eq (c : UInt8) (σ) : ev 170 [.int .u8 c.toNat] σ = some (.bool (isD c), σ) := by
  refine EV_post rfl Tryz.func170 rfl (by simp [Tryz.ntmps170]) (by kernel_rfl) (by kernel_rfl) ?_
  by_cases h1 : 48 ≤ c.toNat
  · simp (maxSteps := 4000000) (disch := omega) [dT, dF, wrap64, isD, h1, Tryz.results170]
  · simp (maxSteps := 4000000) (disch := omega) [dT, dF, wrap64, isD, h1, Tryz.results170]
theorem upper_eq (c : UInt8) (σ) : ev 165 [.int .u8 c.toNat] σ = some (.bool (isU c), σ) := by
  refine EV_post rfl Tryz.func165 rfl (by simp [Tryz.ntmps165]) (by kernel_rfl) (by kernel_rfl) ?_
  by_cases h1 : 65 ≤ c.toNat
  · simp (maxSteps := 4000000) (disch := omega) [dT, dF, wrap64, isU, h1, Tryz.results165]
  · simp (maxSteps := 4000000) (disch := omega) [dT, dF, wrap64, isU, h1, Tryz.results165]
theorem lower_eq (c : UInt8) (σ) : ev 185 [.int .u8 c.toNat] σ = some (.bool (isL c), σ) := by
  refine EV_post rfl Tryz.func185 rfl (by simp [Tryz.ntmps185]) (by kernel_rfl) (by kernel_rfl) ?_
  by_cases h1 : 97 ≤ c.toNat
  · simp (maxSteps := 4000000) (disch := omega) [dT, dF, wrap64, isL, h1, Tryz.results185]
  · simp (maxSteps := 4000000) (disch := omega) [dT, dF, wrap64, isL, h1, Tryz.results185]
theorem rdigit_eq (c : UInt8) (σ) : ev 191 [.int .u8 c.toNat] σ = some (.bool (isD c), σ) := by
  refine EV_post rfl Tryz.func191 rfl (by simp [Tryz.ntmps191]) (by kernel_rfl) (by kernel_rfl) ?_
  by_cases h1 : 48 ≤ c.toNat
  · simp (maxSteps := 4000000) (disch := omega) [dT, dF, wrap64, isD, h1, Tryz.results191]
  · simp (maxSteps := 4000000) (disch := omega) [dT, dF, wrap64, isD, h1, Tryz.results191]
theorem rupper_eq (c : UInt8) (σ) : ev 193 [.int .u8 c.toNat] σ = some (.bool (isU c), σ) := by
  refine EV_post rfl Tryz.func193 rfl (by simp [Tryz.ntmps193]) (by kernel_rfl) (by kernel_rfl) ?_
  by_cases h1 : 65 ≤ c.toNat
  · simp (maxSteps := 4000000) (disch := omega) [dT, dF, wrap64, isU, h1, Tryz.results193]
  · simp (maxSteps := 4000000) (disch := omega) [dT, dF, wrap64, isU, h1, Tryz.results193]
theorem rlower_eq (c : UInt8) (σ) : ev 192 [.int .u8 c.toNat] σ = some (.bool (isL c), σ) := by
  refine EV_post rfl Tryz.func192 rfl (by simp [Tryz.ntmps192]) (by kernel_rfl) (by kernel_rfl) ?_
  by_cases h1 : 97 ≤ c.toNat
  · simp (maxSteps := 4000000) (disch := omega) [dT, dF, wrap64, isL, h1, Tryz.results192]
  · simp (maxSteps := 4000000) (disch := omega) [dT, dF, wrap64, isL, h1, Tryz.results192]

theorem take_all {α β : Type} {s : List α} {p : α → β} {v : β} {i : Nat} (hc : i < s.length) (hn : ∀ x ∈ s.take i, p x = v) (hq : p s[i] = v) : ∀ x ∈ s.take (i + 1), p x = v := by
  intro x hx
  rw [List.take_succ_eq_append_getElem hc, List.mem_append] at hx
  rcases hx with hx | hx
  · exact hn x hx
  · simp at hx; subst hx; exact hq
theorem some_eq (s : List UInt8) (hl : s.length ≤ 2 ^ 31) (g : Nat) (cap : List AV) (p : UInt8 → Bool) (hg : g < 100000) (σ : List (List AV)) (hp : ∀ c : UInt8, ev g (.int .u8 c.toNat :: cap) σ = some (.bool (p c), σ)) :
    ev 166 [.str s, .fn g cap] σ = some (.bool (s.any p), σ) := by
  refine EV_post rfl Tryz.func166 rfl (by simp [Tryz.ntmps166]) (by kernel_rfl) (by kernel_rfl) ?_
  simp (maxSteps := 4000000) (disch := omega) [dT, dF, wrap64]
  refine Post_loop (I := fun i : Nat => ⟨[(0, .str s), (1, .fn g cap), (5, .int .i64 i)], [], σ⟩) (Pr := fun i => i ≤ s.length ∧ ∀ x ∈ s.take i, p x = false) (μ := fun i => s.length - i) (a := 0) (by simp) (by simp) ?_
  rintro i ⟨hi, hn⟩
  by_cases hc : i < s.length
  · by_cases hq : p s[i] = true
    · have h2 : s.any p = true := List.any_eq_true.2 ⟨_, List.getElem_mem hc, hq⟩
      simp (maxSteps := 4000000) (disch := omega) [dT, dF, wrap64, hc , hg, hp, hq, h2, Tryz.results166]
    · have hq' : p s[i] = false := by simpa using hq
      simp (maxSteps := 4000000) (disch := omega) [dT, dF, wrap64, hc , hg, hp, hq']
      refine ⟨i + 1, ⟨by omega, ?_⟩, by omega, by simp⟩
      exact take_all hc hn hq'
  · have hi' : i = s.length := by omega
    subst hi'
    rw [List.take_length] at hn
    have h2 : s.any p = false := by rw [Bool.eq_false_iff]; intro h; obtain ⟨x, hx, hpx⟩ := List.any_eq_true.1 h; rw [hn x hx] at hpx; cases hpx
    simp (maxSteps := 4000000) (disch := omega) [dT, dF, wrap64, hc, h2, Tryz.results166]
theorem all_eq (s : List UInt8) (hl : s.length ≤ 2 ^ 31) (g : Nat) (cap : List AV) (p : UInt8 → Bool) (hg : g < 100000) (σ : List (List AV)) (hp : ∀ c : UInt8, ev g (.int .u8 c.toNat :: cap) σ = some (.bool (p c), σ)) :
    ev 169 [.str s, .fn g cap] σ = some (.bool (allB p s), σ) := by
  refine EV_post rfl Tryz.func169 rfl (by simp [Tryz.ntmps169]) (by kernel_rfl) (by kernel_rfl) ?_
  unfold allB
  simp (maxSteps := 4000000) (disch := omega) [dT, dF, wrap64]
  refine Post_loop (I := fun i : Nat => ⟨[(0, .str s), (1, .fn g cap), (5, .int .i64 i)], [], σ⟩) (Pr := fun i => i ≤ s.length ∧ ∀ x ∈ s.take i, p x = true) (μ := fun i => s.length - i) (a := 0) (by simp) (by simp) ?_
  rintro i ⟨hi, hn⟩
  by_cases hc : i < s.length
  · by_cases hq : p s[i] = true
    · simp (maxSteps := 4000000) (disch := omega) [dT, dF, wrap64, hc , hg, hp, hq]
      refine ⟨i + 1, ⟨by omega, ?_⟩, by omega, by simp⟩
      exact take_all hc hn hq
    · have hq' : p s[i] = false := by simpa using hq
      have h2 : s.all p = false := by
        rw [Bool.eq_false_iff]; intro h; exact hq (List.all_eq_true.1 h _ (List.getElem_mem hc))
      simp (maxSteps := 4000000) (disch := omega) [dT, dF, wrap64, hc , hg, hp, hq', h2, Tryz.results169]
  · have hi' : i = s.length := by omega
    subst hi'
    rw [List.take_length] at hn
    have h2 : s.all p = true := List.all_eq_true.2 hn
    cases s with
    | nil => simp (maxSteps := 4000000) (disch := omega) [dT, dF, wrap64, Tryz.results169]
    | cons a r => simp (maxSteps := 4000000) (disch := omega) [dT, dF, wrap64, hc, h2, Tryz.results169]
end Go.Proofs.Tryz.Ai
end
section
/- strings: places, pieces, ends: by the table. -/
namespace Go.Proofs.Tryz.Ai
open Go Go.AI Go.Proofs
set_option maxHeartbeats 1000000
set_option linter.unusedVariables false

theorem IndexByteL_eq (s : List UInt8) (c : UInt8) (σ) : ev 100 [.str s, .int .u8 c.toNat] σ = some (.int .i64 (ixI c s), σ) := by
  rw [ev_index]; simp [indexT, indexByte_eq]
theorem index_ix (c : UInt8) (l : List UInt8) : Lib.index l [c] = ixI c l := by
  induction l with
  | nil => rfl
  | cons b r ih =>
    unfold Lib.index ixI
    unfold ixI at ih
    rw [ih]
    by_cases h : b = c
    · subst h; simp [List.isPrefixOf, ix]
    · have h' : (c == b) = false := by simpa using fun e => h e.symm
      simp only [List.isPrefixOf, h', Bool.false_and, Bool.false_eq_true, if_false, ix, h, if_false]
      cases ix c r with
      | none => rfl
      | some n =>
        simp only [Option.map_some]
        rw [if_neg (by simp)]
        omega
theorem cut_cutB (c : UInt8) (l : List UInt8) : Lib.cut l [c] = cutB c l := by
  unfold Lib.cut cutB
  rw [index_ix]
  unfold ixI
  cases ix c l with
  | none => rfl
  | some n => simp
theorem splitK_one (c : UInt8) : ∀ (k : Nat) (s : List UInt8), s.count c = k → Lib.splitK [c] 0 k s = splitB c s := by
  intro k
  induction k with
  | zero => intro s h; rw [splitB_not (List.count_eq_zero.1 h)]; rfl
  | succ k ih =>
    intro s h
    cases hi : ix c s with
    | none => rw [List.count_eq_zero.2 (ix_none.1 hi)] at h; omega
    | some n =>
      obtain ⟨h1, h2, h3, h4⟩ := ix_some hi
      have hidx : Lib.index s [c] = (n : Int) := by rw [index_ix]; unfold ixI; rw [hi]
      unfold Lib.splitK
      rw [hidx, splitB_ix hi, if_neg (by simp), Int.toNat_natCast]
      congr 1
      refine ih _ ?_
      have := congrArg (List.count c) h4
      rw [List.count_append, List.count_eq_zero.2 h3, List.count_cons_self, h] at this
      show List.count c (s.drop (n + 1)) = k
      omega
theorem split_one (c : UInt8) (s : List UInt8) : Lib.split s [c] = splitB c s := by
  unfold Lib.split
  rw [Lib.count_one]
  exact splitK_one c _ s rfl
theorem occAt_one {s : List UInt8} {c : UInt8} {j : Nat} : Lib.occAt s [c] j = true ↔ s[j]? = some c := by
  unfold Lib.occAt
  rw [List.isPrefixOf_iff_prefix]
  constructor
  · rintro ⟨t, ht⟩
    have := congrArg (·[0]?) ht
    simpa using this.symm
  · intro h
    obtain ⟨hj, he⟩ := List.getElem?_eq_some_iff.1 h
    rw [List.drop_eq_getElem_cons hj, he]
    exact ⟨_, rfl⟩
theorem lastIndex_one (c : UInt8) (s : List UInt8) : Lib.lastIndex s [c] = lixI c s := by
  unfold lixI
  rcases lastIndex_spec s [c] (by simp) with ⟨h1, h2⟩ | ⟨i, h1, h2, h3⟩
  · have : lix c s = none := by
      rw [lix_none]
      intro hm
      obtain ⟨j, hj⟩ := List.mem_iff_getElem?.1 hm
      have := h2 j
      rw [occAt_one.2 hj] at this; cases this
    rw [h1, this]
  · have hi := occAt_one.1 h2
    cases hq : lix c s with
    | none => exact absurd (List.mem_of_getElem? hi) (lix_none.1 hq)
    | some n =>
      obtain ⟨g1, g2, g3, g4⟩ := lix_some hq
      rw [h1]
      simp only
      have : i = n := by
        rcases Nat.lt_trichotomy i n with h | h | h
        · have := h3 n h; rw [occAt_one.2 g2] at this; cases this
        · exact h
        · exact absurd (List.mem_iff_getElem?.2 ⟨i - (n + 1), by rw [List.getElem?_drop, show n + 1 + (i - (n + 1)) = i by omega]; exact hi⟩) g3
      rw [this]
theorem IndexByte_eq (s : List UInt8) (c : UInt8) (σ) : ev 64 [.str s, .int .u8 c.toNat] σ = some (.int .i64 (ixI c s), σ) := by
  have h1 := IndexByteL_eq s c
  refine EV_post rfl Tryz.func64 rfl (by simp [Tryz.ntmps64]) (by kernel_rfl) (by kernel_rfl) ?_
  simp (maxSteps := 4000000) [List.getElem?_cons_zero, List.getElem?_cons_succ, h1, Tryz.results64]
theorem ixI_nonneg (c : UInt8) (s : List UInt8) : (0 ≤ ixI c s) ↔ c ∈ s := by
  unfold ixI
  cases h : ix c s with
  | none => have := ix_none.1 h; simp [this]
  | some n => have := (ix_some h).2.1; simp [List.mem_of_getElem? this]
theorem Contains1_eq (s : List UInt8) (hs : s.length ≤ 2 ^ 31) (c : UInt8) (σ) : ev 73 [.str s, .str [c]] σ = some (.bool (decide (c ∈ s)), σ) := by
  rw [ev_Contains]
  simp only [containsT]
  rw [need_of (by omega)]
  have : Lib.contains s [c] = decide (c ∈ s) := by
    unfold Lib.contains
    rw [index_ix, Bool.eq_iff_iff]
    simp [ixI_nonneg]
  rw [this]
theorem Cut1_eq (s : List UInt8) (hl : s.length ≤ 2 ^ 31) (c : UInt8) (σ) : ev 89 [.str s, .str [c]] σ = some (.tup [.str (cutB c s).1, .str (cutB c s).2.1, .bool (cutB c s).2.2], σ) := by
  rw [ev_Cut]
  simp only [cutT]
  rw [need_of (by omega), cut_cutB]
theorem LastIndex1_eq (s : List UInt8) (hl : s.length ≤ 2 ^ 31) (c : UInt8) (σ) : ev 167 [.str s, .str [c]] σ = some (.int .i64 (lixI c s), σ) := by
  rw [ev_LastIndex]
  simp only [lastIndexT]
  rw [need_of (by omega), lastIndex_one]
theorem Split1_eq (s : List UInt8) (hl : s.length ≤ 2 ^ 30) (c : UInt8) (σ) : ev 52 [.str s, .str [c]] σ = some (.sl (.ex 9 1) ((splitB c s).map .str), σ) := by
  rw [ev_Split]
  simp only [splitT]
  rw [need_of ⟨by omega, by simp⟩, split_one]
theorem Atoi_eq (s : List UInt8) (h1 : s.all isD = true) (h2 : s ≠ []) (h3 : s.length ≤ 9) (σ) : ev 229 [.str s] σ = some (.tup [.int .i64 (valB s), .nili], σ) := by
  rw [ev_Atoi]
  simp only [atoiT]
  rw [need_of (by omega), digs_atoi s h1 h2 (by omega)]
theorem CutPrefix_eq (a b : List UInt8) (ha : a.length ≤ 2 ^ 31) (hb : b.length ≤ 2 ^ 31) (σ) : ev 63 [.str a, .str b] σ = some (.tup [.str (if b.isPrefixOf a then a.drop b.length else a), .bool (b.isPrefixOf a)], σ) := by
  rw [ev_CutPrefix]
  simp only [cutPrefixT]
  first
    | rfl
    | (rw [need_of (by omega)]; rfl)
theorem CutSuffix_eq (a b : List UInt8) (ha : a.length ≤ 2 ^ 31) (hb : b.length ≤ 2 ^ 31) (σ) : ev 54 [.str a, .str b] σ = some (.tup [.str (if b <:+ a then a.take (a.length - b.length) else a), .bool (decide (b <:+ a))], σ) := by
  rw [ev_CutSuffix]
  simp only [cutSuffixT]
  rw [need_of (by omega)]
  have hsf : Lib.hasSuffix a b = decide (b <:+ a) := by
    unfold Lib.hasSuffix; rw [Bool.eq_iff_iff, List.isSuffixOf_iff_suffix, decide_eq_true_iff]
  have htr : Lib.trimSuffix a b = if b <:+ a then a.take (a.length - b.length) else a := by
    unfold Lib.trimSuffix; rw [hsf]; simp
  rw [hsf, htr]
end Go.Proofs.Tryz.Ai
end
section
/- sumfile: small functions; searches in lines and texts. -/
namespace Go.Proofs.Tryz.Ai
open Go Go.AI Go.Proofs Go.B64
set_option maxHeartbeats 4000000
set_option maxRecDepth 4000
set_option linter.unusedVariables false

theorem Num_eq (e : Int) (σ) : ev 21 [.int .i64 e] σ = some (.int .i64 e, σ) := by
  refine EV_post rfl Tryz.func21 rfl (by simp [Tryz.ntmps21]) (by kernel_rfl) (by kernel_rfl) ?_
  simp (maxSteps := 4000000) [List.getElem?_cons_zero, List.getElem?_cons_succ, Tryz.results21]
theorem when_eq (b : Bool) (e : Int) (σ) : ev 60 [.bool b, .int .i64 e] σ = some (.int .i64 (if b then e else 0), σ) := by
  refine EV_post rfl Tryz.func60 rfl (by simp [Tryz.ntmps60]) (by kernel_rfl) (by kernel_rfl) ?_
  cases b <;> simp (maxSteps := 4000000) [List.getElem?_cons_zero, List.getElem?_cons_succ, Tryz.results60]
/-- the first that is no zero -/
def fstE (l : List Int) : Int := l.foldr orI 0
theorem fstE_drop (l : List Int) (i : Nat) (h : ∀ x ∈ l.take i, x = 0) : fstE l = fstE (l.drop i) := by
  induction l generalizing i with
  | nil => simp
  | cons a r ih =>
    cases i with
    | zero => rfl
    | succ i =>
      simp only [List.take_succ_cons, List.mem_cons, forall_eq_or_imp] at h
      rw [List.drop_succ_cons, ← ih i h.2]
      simp [fstE, orI, h.1]
theorem sfirst_eq (l : List Int) (hl : l.length ≤ 2 ^ 30) (σ) : ev 59 [.sl .sh (l.map (.int .i64))] σ = some (.int .i64 (fstE l), σ) := by
  refine EV_post rfl Tryz.func59 rfl (by simp [Tryz.ntmps59]) (by kernel_rfl) (by kernel_rfl) ?_
  simp (maxSteps := 4000000) [List.getElem?_cons_zero, List.getElem?_cons_succ, ]
  refine Post_loop (I := fun i : Nat => ⟨[(5, .sl .sh (l.map (.int .i64))), (6, .int .i64 l.length), (7, .int .i64 i)], [], σ⟩) (Pr := fun i => i ≤ l.length ∧ ∀ x ∈ l.take i, x = 0) (μ := fun i => l.length - i) (a := 0) (by simp) (by simp) ?_
  rintro i ⟨hi, hn⟩
  by_cases hc : i < l.length
  · obtain ⟨x, hx⟩ : ∃ x, l[i] = x := ⟨_, rfl⟩
    have hx2 : l[i]? = some x := by rw [← hx]; exact List.getElem?_eq_getElem hc
    have w6 : IntKind.i64.wrap ((i : Int) + 1) = (i : Int) + 1 := wrap64 (by omega)
    have hd := fstE_drop l i hn
    rw [List.drop_eq_getElem_cons hc, hx] at hd
    by_cases hq : x = 0
    · simp (maxSteps := 4000000) [List.getElem?_cons_zero, List.getElem?_cons_succ, -getElem?_pos, hc, hx2, hq, w6]
      exact ⟨i + 1, ⟨by omega, take_all (p := id) hc hn (hx.trans hq)⟩, by omega, by simp⟩
    · have h2 : fstE l = x := by rw [hd]; simp [fstE, orI, hq]
      simp (maxSteps := 4000000) [List.getElem?_cons_zero, List.getElem?_cons_succ, -getElem?_pos, hc, hx2, hq, h2, Tryz.results59]
  · have hi' : i = l.length := by omega
    subst hi'
    have hd := fstE_drop l _ hn
    simp only [List.drop_length] at hd
    have h2 : fstE l = 0 := hd
    simp (maxSteps := 4000000) [List.getElem?_cons_zero, List.getElem?_cons_succ, h2, Tryz.results59]
/-- what a function takes first -/
def fixA {α : Type} (K : List α) (p : α → Bool) : Int := if K.any p then ((K.findIdx p : Nat) : Int) else -1
theorem fixA_nn {α : Type} (K : List α) (p : α → Bool) : decide (0 ≤ fixA K p) = K.any p := by
  unfold fixA
  cases K.any p <;> simp
theorem fixA_at {α : Type} {K : List α} {p : α → Bool} {i : Nat} {k : α} (hk : K[i]? = some k) (hn : (K.take i).any p = false) (hp : p k = true) : fixA K p = (i : Int) := by
  have hi : i < K.length := (List.getElem?_eq_some_iff.1 hk).1
  have hki : K[i] = k := (List.getElem?_eq_some_iff.1 hk).2
  unfold fixA
  rw [if_pos (List.any_eq_true.2 ⟨k, List.mem_of_getElem? hk, hp⟩)]
  congr 1
  rw [List.findIdx_eq hi]
  refine ⟨by rw [hki]; exact hp, fun j hj => ?_⟩
  cases hq : p K[j] with
  | false => rfl
  | true =>
    have : (K.take i).any p = true := List.any_eq_true.2 ⟨K[j], by rw [List.mem_take_iff_getElem]; exact ⟨j, by omega, rfl⟩, hq⟩
    rw [hn] at this; cases this
theorem fixA_none {α : Type} {K : List α} {p : α → Bool} (h : K.any p = false) : fixA K p = -1 := by unfold fixA; rw [h]; simp
theorem any_take_succ {α : Type} {K : List α} {p : α → Bool} {i : Nat} {k : α} (hk : K[i]? = some k) (hn : (K.take i).any p = false) : (K.take (i + 1)).any p = p k := by
  rw [List.take_add_one, hk, List.any_append, hn]; simp
/-- a line -/
abbrev Ln := (List UInt8 × List UInt8) × Int × List UInt8
def lnF (x : Ln) : AV := .agg [.str x.1.1, .str x.1.2, .int .i64 x.2.1, .str x.2.2]
theorem lnFx (x : Ln) : lnF x = .agg [.str x.1.1, .str x.1.2, .int .i64 x.2.1, .str x.2.2] := rfl
@[simp] theorem allCells_ln {l : List Ln} : allCells 4 (l.map lnF) ↔ True := ⟨fun _ => trivial, fun _ y hy => by obtain ⟨z, _, rfl⟩ := List.mem_map.1 hy; exact ⟨rfl, fun c hc => by simp [lnF, AV.cells] at hc; rcases hc with rfl | rfl | rfl | rfl <;> rfl⟩⟩
@[simp] theorem low_ln {n : Nat} {x : Ln} : low n (lnF x) ↔ True := by simp [lnF, low, lowL]
theorem IndexFuncL_eq (K : List Ln) (hK : K.length ≤ 2 ^ 30) (g : FuncId) (hg : g < 100000) (cap : List AV) (hcap : args cap = some cap) (p : Ln → Bool) (σ : List (List AV)) (h : ∀ k ∈ K, ev g (lnF k :: cap) σ = some (.bool (p k), σ)) :
    ev 47 [.sl .sh (K.map lnF), .fn g cap] σ = some (.int .i64 (fixA K p), σ) := by
  refine EV_post rfl Tryz.func47 rfl (by simp [Tryz.ntmps47]) (by kernel_rfl) (by kernel_rfl) ?_
  simp (maxSteps := 4000000) [List.getElem?_cons_zero, List.getElem?_cons_succ, ]
  refine Post_loop (I := fun i : Nat => ⟨[(0, .sl .sh (K.map lnF)), (1, .fn g cap), (7, .int .i64 K.length), (8, .int .i64 i)], [], σ⟩) (Pr := fun i => i ≤ K.length ∧ (K.take i).any p = false) (μ := fun i => K.length - i) (a := 0) (by simp) (by simp) ?_
  rintro i ⟨hi, hn⟩
  have w1 : IntKind.i64.wrap ((i : Int) + 1) = (i : Int) + 1 := wrap64 (by omega)
  by_cases hc : i < K.length
  · obtain ⟨k, hk⟩ : ∃ k, K[i]? = some k := ⟨_, List.getElem?_eq_getElem hc⟩
    have hv := h k (List.mem_of_getElem? hk)
    have hin := any_take_succ hk hn
    have hfx := fixA_at hk hn
    obtain ⟨⟨k1, k2⟩, k3, k4⟩ := k
    cases hp : p ((k1, k2), k3, k4) with
    | true =>
      have hfx := hfx hp
      rw [hp] at hv
      simp only [lnFx] at hv
      simp (maxSteps := 4000000) [List.getElem?_cons_zero, List.getElem?_cons_succ, -getElem?_pos, hc, hk, hg, hcap, lnFx, hv, hfx, Tryz.results47]
    | false =>
      rw [hp] at hv hin
      simp only [lnFx] at hv
      simp (maxSteps := 4000000) [List.getElem?_cons_zero, List.getElem?_cons_succ, -getElem?_pos, -Prod.exists, -Prod.forall, hc, hk, hg, hcap, lnFx, hv, w1]
      exact ⟨i + 1, ⟨by omega, by simpa using hin⟩, by omega, by simp⟩
  · rw [List.take_of_length_le (by omega)] at hn
    have hfx : fixA K p = -1 := fixA_none hn
    simp (maxSteps := 4000000) [List.getElem?_cons_zero, List.getElem?_cons_succ, hc, hfx, Tryz.results47]
theorem ContainsFuncL_eq (K : List Ln) (hK : K.length ≤ 2 ^ 30) (g : FuncId) (hg : g < 100000) (cap : List AV) (hcap : args cap = some cap) (p : Ln → Bool) (σ : List (List AV)) (h : ∀ k ∈ K, ev g (lnF k :: cap) σ = some (.bool (p k), σ)) :
    ev 94 [.sl .sh (K.map lnF), .fn g cap] σ = some (.bool (K.any p), σ) := by
  have h1 := IndexFuncL_eq K hK g hg cap hcap p σ h
  have h2 := fixA_nn K p
  refine EV_post rfl Tryz.func94 rfl (by simp [Tryz.ntmps94]) (by kernel_rfl) (by kernel_rfl) ?_
  simp (maxSteps := 4000000) [List.getElem?_cons_zero, List.getElem?_cons_succ, hcap, h1, h2, Tryz.results94]
/-- is a text among texts? -/
theorem ContainsT_eq (K : List (List UInt8)) (hK : K.length ≤ 2 ^ 30) (s : List UInt8) (σ) : ev 53 [.sl .sh (K.map .str), .str s] σ = some (.bool (K.any (s == ·)), σ) := by
  have h1 : ∀ σ, ev 91 [.sl .sh (K.map .str), .str s] σ = some (.int .i64 (fixA K (s == ·)), σ) := by
    intro σ
    refine EV_post rfl Tryz.func91 rfl (by simp [Tryz.ntmps91]) (by kernel_rfl) (by kernel_rfl) ?_
    simp (maxSteps := 4000000) [List.getElem?_cons_zero, List.getElem?_cons_succ, ]
    refine Post_loop (I := fun i : Nat => ⟨[(0, .sl .sh (K.map .str)), (1, .str s), (7, .int .i64 K.length), (8, .int .i64 i)], [], σ⟩) (Pr := fun i => i ≤ K.length ∧ (K.take i).any (s == ·) = false) (μ := fun i => K.length - i) (a := 0) (by simp) (by simp) ?_
    rintro i ⟨hi, hn⟩
    have w1 : IntKind.i64.wrap ((i : Int) + 1) = (i : Int) + 1 := wrap64 (by omega)
    by_cases hc : i < K.length
    · obtain ⟨k, hk⟩ : ∃ k, K[i]? = some k := ⟨_, List.getElem?_eq_getElem hc⟩
      have hin := any_take_succ hk hn
      have hfx := fixA_at hk hn
      cases hp : (s == k) with
      | true =>
        have hfx := hfx hp
        simp (maxSteps := 4000000) [List.getElem?_cons_zero, List.getElem?_cons_succ, -getElem?_pos, -beq_iff_eq, hc, hk, hp, hfx, Tryz.results91]
      | false =>
        rw [hp] at hin
        simp (maxSteps := 4000000) [List.getElem?_cons_zero, List.getElem?_cons_succ, -getElem?_pos, -beq_eq_false_iff_ne, hc, hk, hp, w1]
        exact ⟨i + 1, ⟨by omega, by simpa using hin⟩, by omega, by simp⟩
    · rw [List.take_of_length_le (by omega)] at hn
      have hfx : fixA K (s == ·) = -1 := fixA_none hn
      simp (maxSteps := 4000000) [List.getElem?_cons_zero, List.getElem?_cons_succ, hc, hfx, Tryz.results91]
  have h2 := fixA_nn K (s == ·)
  refine EV_post rfl Tryz.func53 rfl (by simp [Tryz.ntmps53]) (by kernel_rfl) (by kernel_rfl) ?_
  simp (maxSteps := 4000000) [List.getElem?_cons_zero, List.getElem?_cons_succ, h1, h2, Tryz.results53]
/-- a line of a module, of a kind -/
def isLn (m : List UInt8 × List UInt8) (k : Int) (x : Ln) : Bool := (x.1.1 == m.1 && x.1.2 == m.2) && decide (x.2.1 = k)
theorem of_eq (m : List UInt8 × List UInt8) (k : Int) (σ : List (List AV)) : ev 48 [.agg [.str m.1, .str m.2], .int .i64 k] σ = some (.fn 87 [.gp σ.length 0 (some (24, 2)), .gp (σ.length + 1) 0 (some (3, 1))], σ ++ [[.str m.1, .str m.2], [.int .i64 k]]) := by
  refine EV_post rfl Tryz.func48 rfl (by simp [Tryz.ntmps48]) (by kernel_rfl) (by kernel_rfl) ?_
  simp (maxSteps := 4000000) [List.getElem?_cons_zero, List.getElem?_cons_succ, Tryz.results48]
theorem of1_eq (m : List UInt8 × List UInt8) (k : Int) (b d : Nat) (sh sh' : Option (TypeId × Nat)) (x : Ln) (σ : List (List AV)) (hb : σ[b]? = some [.str m.1, .str m.2]) (hd : σ[d]? = some [.int .i64 k]) :
    ev 87 [lnF x, .gp b 0 sh, .gp d 0 sh'] σ = some (.bool (isLn m k x), σ) := by
  obtain ⟨⟨x1, x2⟩, x3, x4⟩ := x
  obtain ⟨m1, m2⟩ := m
  unfold isLn
  simp only at hb ⊢
  rw [lnFx]
  refine EV_post rfl Tryz.func87 rfl (by simp [Tryz.ntmps87]) (by kernel_rfl) (by kernel_rfl) ?_
  by_cases hc : x1 = m1
  · have hc' : (x1 == m1) = true := by simpa using hc
    by_cases hq : x2 = m2
    · have hq' : (x2 == m2) = true := by simpa using hq
      simp (maxSteps := 4000000) [List.getElem?_cons_zero, List.getElem?_cons_succ, -getElem?_pos, hb, hd, hc', hq', Tryz.results87]
    · have hq' : (x2 == m2) = false := by simpa using hq
      simp (maxSteps := 4000000) [List.getElem?_cons_zero, List.getElem?_cons_succ, -getElem?_pos, hb, hd, hc', hq', Tryz.results87]
  · have hc' : (x1 == m1) = false := by simpa using hc
    simp (maxSteps := 4000000) [List.getElem?_cons_zero, List.getElem?_cons_succ, -getElem?_pos, hb, hd, hc', Tryz.results87]
def findP (l : List Ln) (m : List UInt8 × List UInt8) (k : Int) : Option (List UInt8) := (l.find? (isLn m k)).map (·.2.2)
theorem fixA_find {α : Type} (K : List α) (p : α → Bool) : (K.any p = false ∧ K.find? p = none) ∨ ∃ (i : Nat) (k : α), K[i]? = some k ∧ fixA K p = (i : Int) ∧ K.find? p = some k := by
  cases h : K.any p with
  | false => exact .inl ⟨rfl, List.find?_eq_none.2 fun x hx => by have := List.any_eq_false.1 h x hx; simpa using this⟩
  | true =>
    right
    have hlt : K.findIdx p < K.length := List.findIdx_lt_length_of_exists (by simpa using h)
    refine ⟨K.findIdx p, K[K.findIdx p], List.getElem?_eq_getElem hlt, by unfold fixA; rw [h]; simp, ?_⟩
    rw [List.find?_eq_some_iff_getElem]
    exact ⟨List.findIdx_getElem, _, hlt, rfl, fun j hj => by have := List.not_of_lt_findIdx hj; simpa using this⟩
def findAV (o : Option (List UInt8)) : AV := .tup [.str (o.getD []), .bool o.isSome]
theorem Find_eq (l : List Ln) (hl : l.length ≤ 2 ^ 30) (m : List UInt8 × List UInt8) (k : Int) (σ) : ev 16 [.sl .sh (l.map lnF), .agg [.str m.1, .str m.2], .int .i64 k] σ = some (findAV (findP l m k), σ) := by
  have h1 := fun σ b d sh sh' hb hd => IndexFuncL_eq l hl 87 (by decide) [.gp b 0 sh, .gp d 0 sh'] (by simp [args, arg, dem]) (isLn m k) σ (fun x _ => of1_eq m k b d sh sh' x σ hb hd)
  have h2 := of_eq m k
  obtain ⟨m1, m2⟩ := m
  simp only at h2 h1 ⊢
  have h3 : ∀ σ : List (List AV), ev 47 [.sl .sh (l.map lnF), .fn 87 [.gp σ.length 0 (some (24, 2)), .gp (σ.length + 1) 0 (some (3, 1))]] (σ ++ [[.str m1, .str m2], [.int .i64 k]]) = some (.int .i64 (fixA l (isLn (m1, m2) k)), σ ++ [[.str m1, .str m2], [.int .i64 k]]) := fun σ => h1 _ _ _ _ _ (by simp) (by simp)
  clear h1
  refine EV_post rfl Tryz.func16 rfl (by simp [Tryz.ntmps16]) (by kernel_rfl) (by kernel_rfl) ?_
  rcases fixA_find l (isLn (m1, m2) k) with ⟨hn, hf⟩ | ⟨i, x, hx, hi, hf⟩
  · have hA : findAV (findP l (m1, m2) k) = .tup [.str [], .bool false] := by unfold findP findAV; rw [hf]; rfl
    rw [fixA_none hn] at h3
    simp (maxSteps := 4000000) [List.getElem?_cons_zero, List.getElem?_cons_succ, h2, h3, hA, Tryz.results16]
  · have hA : findAV (findP l (m1, m2) k) = .tup [.str x.2.2, .bool true] := by unfold findP findAV; rw [hf]; rfl
    rw [hi] at h3
    have hil := (List.getElem?_eq_some_iff.1 hx).1
    obtain ⟨⟨x1, x2⟩, x3, x4⟩ := x
    simp (maxSteps := 4000000) [List.getElem?_cons_zero, List.getElem?_cons_succ, -getElem?_pos, h2, h3, hx, lnFx, hA, Tryz.results16]
end Go.Proofs.Tryz.Ai
end
section
/- sumfile.Glob. -/
namespace Go.AI
section
variable {P : Program} {h : Hint} {C : Oracle}
theorem PostD_no1 {ds : List Nat} {ops r : List Oper} {st : St} {o : Oper} {K : St → Prop} (st1 : St) (hw : wantedA ops o.guard st = some false) (hq : okAll ds st.t (tkT h o).toList = true)
    (hs : st.put o.dst (.tup []) = st1) (k : PostD (runD P h C ds ops r st1) K) : PostD (runD P h C ds ops (o :: r) st) K := PostD_no hw hq (by rw [hs]; exact k)
end
theorem dropWhile_head {α : Type} {p : α → Bool} : ∀ {l : List α} {a : α} {r : List α}, l.dropWhile p = a :: r → p a = false := by
  intro l
  induction l with
  | nil => intro a r h; cases h
  | cons b l ih =>
    intro a r h
    rw [List.dropWhile_cons] at h
    split at h
    · exact ih h
    · rename_i hb
      injection h with h1 _
      subst h1
      simpa using hb
theorem dropWhile_nil {α : Type} {p : α → Bool} : ∀ {l : List α}, l.dropWhile p = [] ↔ ∀ x ∈ l, p x = true := by
  intro l
  induction l with
  | nil => simp
  | cons b l ih =>
    rw [List.dropWhile_cons]
    cases hb : p b with
    | true => simp only [if_true, ih, List.mem_cons, forall_eq_or_imp, hb, true_and]
    | false => simp [hb]
theorem trimB_nil (l : List UInt8) (c : UInt8) : Lib.trimB l c = [] ↔ ∀ x ∈ l, x = c := by
  unfold Lib.trimB Lib.trimLeftB Lib.trimRightB
  constructor
  · intro h
    rw [dropWhile_nil] at h
    cases hq : l.reverse.dropWhile (· == c) with
    | nil =>
      rw [dropWhile_nil] at hq
      intro x hx
      simpa using hq x (by simpa using hx)
    | cons a r =>
      have h1 := dropWhile_head hq
      have h2 := h a (by rw [hq]; simp)
      rw [h1] at h2; cases h2
  · intro h
    have : l.reverse.dropWhile (· == c) = [] := by
      rw [dropWhile_nil]
      intro x hx
      simpa using h x (by simpa using hx)
    rw [this]; rfl
theorem mes3 {a b c a' b' c' K : Nat} (hb : b' < K) (hc : c' < K) (hb2 : b < K) (hc2 : c < K) (h : a' < a ∨ (a' = a ∧ b' < b) ∨ (a' = a ∧ b' = b ∧ c' < c)) : a' * (K * K) + b' * K + c' < a * (K * K) + b * K + c := by
  have e1 : b' * K + K ≤ K * K := by have := Nat.mul_le_mul_right K (show b' + 1 ≤ K by omega); rw [Nat.add_mul, Nat.one_mul] at this; exact this
  rcases h with h | ⟨rfl, h⟩ | ⟨rfl, rfl, h⟩
  · have := Nat.mul_le_mul_right (K * K) (show a' + 1 ≤ a by omega)
    rw [Nat.add_mul, Nat.one_mul] at this
    omega
  · have := Nat.mul_le_mul_right K (show b' + 1 ≤ b by omega)
    rw [Nat.add_mul, Nat.one_mul] at this
    omega
  · omega
end Go.AI
namespace Go.Proofs.Tryz.Ai
open Go Go.AI Go.Proofs Go.B64
set_option maxHeartbeats 8000000
set_option maxRecDepth 4000
set_option linter.unusedVariables false

open Classical in
noncomputable def globB (p s : List UInt8) : Bool := decide (MG p s)
theorem globB_iff {p s : List UInt8} : globB p s = true ↔ MG p s := by unfold globB; simp
/-- where the search stands -/
def GInv (P S : List UInt8) (p i : Nat) (st : Int) (f : Nat) : Prop :=
  p ≤ P.length ∧ i ≤ S.length ∧ f ≤ S.length ∧ ((st = -1 ∧ (MG P S ↔ RG P S p i)) ∨ ∃ k : Nat, st = (k : Int) ∧ P[k]? = some 42 ∧ f ≤ i ∧ p = k + 1 + (i - f) ∧ segG P S (k + 1) f (i - f) ∧ (MG P S ↔ RG P S p i ∨ EG P S k f))
def GMes (P S : List UInt8) (i : Nat) (st : Int) (f : Nat) : Nat := (if st = -1 then P.length + 1 else P.length - st.toNat) * ((S.length + 1) * (S.length + 1)) + (S.length - f) * (S.length + 1) + (S.length - i)
theorem GInv.star {P S : List UInt8} {p i : Nat} {st : Int} {f : Nat} (h : GInv P S p i st f) (hp : P[p]? = some 42) (hi : i < S.length) : GInv P S (p + 1) i p i ∧ GMes P S i p i < GMes P S i st f := by
  obtain ⟨h1, h2, h3, h4⟩ := h
  have hpl := (List.getElem?_eq_some_iff.1 hp).1
  refine ⟨⟨by omega, h2, h2, .inr ⟨p, rfl, hp, Nat.le_refl _, by omega, fun j hj => by omega, ?_⟩⟩, ?_⟩
  · rw [← RG_star hp h2]
    rcases h4 with ⟨rfl, h4⟩ | ⟨k, rfl, g1, g2, g3, g4, g5⟩
    · exact h4
    · rw [g5]
      exact ⟨fun h => h.elim id fun h => greedy_star g3 g2 h2 g4 hp h, .inl⟩
  · unfold GMes
    refine mes3 (by omega) (by omega) (by omega) (by omega) (.inl ?_)
    rw [if_neg (by omega)]
    rcases h4 with ⟨rfl, h4⟩ | ⟨k, rfl, g1, g2, g3, g4, g5⟩
    · simp; omega
    · rw [if_neg (by omega)]; simp; omega
theorem GInv.one {P S : List UInt8} {p i : Nat} {st : Int} {f : Nat} (h : GInv P S p i st f) {c d : UInt8} (hp : P[p]? = some c) (hs : S[i]? = some d) (h42 : c ≠ 42) (ho : one c d) : GInv P S (p + 1) (i + 1) st f ∧ GMes P S (i + 1) st f < GMes P S i st f := by
  obtain ⟨h1, h2, h3, h4⟩ := h
  have hpl := (List.getElem?_eq_some_iff.1 hp).1
  have hil := (List.getElem?_eq_some_iff.1 hs).1
  have hR : RG P S p i ↔ RG P S (p + 1) (i + 1) := by
    rw [RG_one hp h42]
    constructor
    · rintro ⟨d', hd', _, h⟩; exact h
    · intro h; exact ⟨d, hs, ho, h⟩
  refine ⟨⟨by omega, by omega, h3, ?_⟩, ?_⟩
  · rcases h4 with ⟨rfl, h4⟩ | ⟨k, rfl, g1, g2, g3, g4, g5⟩
    · exact .inl ⟨rfl, by rw [h4, hR]⟩
    · refine .inr ⟨k, rfl, g1, by omega, by omega, fun j hj => ?_, by rw [g5, hR]⟩
      by_cases hj2 : j = i - f
      · subst hj2
        exact ⟨c, d, by rw [← g3]; exact hp, by rw [show f + (i - f) = i by omega]; exact hs, h42, ho⟩
      · exact g4 j (by omega)
  · unfold GMes
    exact mes3 (by omega) (by omega) (by omega) (by omega) (.inr (.inr ⟨rfl, rfl, by omega⟩))
theorem GInv.next {P S : List UInt8} {p i k : Nat} {f : Nat} (h : GInv P S p i k f) {c : UInt8} (hi : i < S.length) (hR : ¬ RG P S p i) (hs : S[f]? = some c) (h47 : c ≠ 47) : GInv P S (k + 1) (f + 1) k (f + 1) ∧ GMes P S (f + 1) k (f + 1) < GMes P S i k f := by
  obtain ⟨h1, h2, h3, h4⟩ := h
  have hfl := (List.getElem?_eq_some_iff.1 hs).1
  rcases h4 with ⟨e, h4⟩ | ⟨k', e, g1, g2, g3, g4, g5⟩
  · omega
  · obtain rfl : k = k' := by omega
    have hkl := (List.getElem?_eq_some_iff.1 g1).1
    refine ⟨⟨by omega, by omega, by omega, .inr ⟨k, rfl, g1, Nat.le_refl _, by omega, fun j hj => by omega, ?_⟩⟩, ?_⟩
    · rw [g5, ← greedy_next hs h47]
      exact ⟨fun h => h.resolve_left hR, .inr⟩
    · unfold GMes
      exact mes3 (by omega) (by omega) (by omega) (by omega) (.inr (.inl ⟨rfl, by omega⟩))
theorem GInv.stop {P S : List UInt8} {p i : Nat} {st : Int} {f : Nat} (h : GInv P S p i st f) (hR : ¬ RG P S p i) (hs : st = -1 ∨ S[f]? = some 47) : ¬ MG P S := by
  obtain ⟨h1, h2, h3, h4⟩ := h
  rcases h4 with ⟨rfl, h4⟩ | ⟨k, rfl, g1, g2, g3, g4, g5⟩
  · rw [h4]; exact hR
  · rw [g5]
    rintro (h | h)
    · exact hR h
    · rcases hs with hs | hs
      · omega
      · exact greedy_stop hs h
theorem GInv.done {P S : List UInt8} {p : Nat} {st : Int} {f : Nat} (h : GInv P S p S.length st f) : MG P S ↔ ∀ c ∈ P.drop p, c = 42 := by
  obtain ⟨h1, h2, h3, h4⟩ := h
  rw [← RG_end (S := S)]
  rcases h4 with ⟨rfl, h4⟩ | ⟨k, rfl, g1, g2, g3, g4, g5⟩
  · exact h4
  · rw [g5]
    exact ⟨fun h => h.elim id fun h => (greedy_end g2 g4 h).elim, .inl⟩
theorem GInv.st {P S : List UInt8} {p i : Nat} {st : Int} {f : Nat} (h : GInv P S p i st f) : st = -1 ∨ ∃ k : Nat, st = (k : Int) := by
  rcases h.2.2.2 with h | ⟨k, h, _⟩
  · exact .inl h.1
  · exact .inr ⟨k, h⟩
theorem GInv.fi {P S : List UInt8} {p i k : Nat} {f : Nat} (h : GInv P S p i (k : Int) f) : f ≤ i := by
  rcases h.2.2.2 with h | ⟨k', h, _, h2, _⟩
  · omega
  · exact h2
theorem GInv.kl {P S : List UInt8} {p i k : Nat} {f : Nat} (h : GInv P S p i (k : Int) f) : k < P.length := by
  rcases h.2.2.2 with h | ⟨k', h, h1, h2, _⟩
  · omega
  · obtain rfl : k = k' := by omega
    exact (List.getElem?_eq_some_iff.1 h1).1
theorem GInv.start (P S : List UInt8) : GInv P S 0 0 (-1) 0 := ⟨by omega, by omega, by omega, .inl ⟨rfl, by unfold RG; simp⟩⟩
theorem Trim_eq (s : List UInt8) (c : UInt8) (hs : s.length ≤ 2 ^ 30) (hc : c.toNat < 128) (σ) : ev 70 [.str s, .str [c]] σ = some (.str (Lib.trimB s c), σ) := by
  rw [ev_Trim]
  simp only [trimT]
  rw [need_of ⟨by omega, hc⟩]
theorem Glob_eq (P S : List UInt8) (hP : P.length ≤ 2 ^ 30) (hS : S.length ≤ 2 ^ 30) (σ) : ev 31 [.str P, .str S] σ = some (.bool (globB P S), σ) := by
  have hT := fun k => Trim_eq (P.drop k) 42 (by simp; omega) (by decide)
  refine EV_post rfl Tryz.func31 rfl (by simp [Tryz.ntmps31]) (by kernel_rfl) (by kernel_rfl) ?_
  simp (maxSteps := 4000000) [List.getElem?_cons_zero, List.getElem?_cons_succ, ]
  refine Post_loop (I := fun q : Nat × Nat × Int × Nat => ⟨[(0, .str P), (1, .str S), (5, .int .i64 q.1), (6, .int .i64 q.2.1), (7, .int .i64 q.2.2.1), (8, .int .i64 q.2.2.2)], [], σ⟩) (Pr := fun q => GInv P S q.1 q.2.1 q.2.2.1 q.2.2.2) (μ := fun q => GMes P S q.2.1 q.2.2.1 q.2.2.2) (a := (0, 0, -1, 0)) (by simp) (GInv.start P S) ?_
  rintro ⟨p, i, st, f⟩ hI
  simp only at hI ⊢
  have b1 := hI.1
  have b2 := hI.2.1
  have b3 := hI.2.2.1
  have hst := hI.st
  have w1 : IntKind.i64.wrap ((p : Int) + 1) = (p : Int) + 1 := wrap64 (by omega)
  have w2 : IntKind.i64.wrap ((i : Int) + 1) = (i : Int) + 1 := wrap64 (by omega)
  have w3 : IntKind.i64.wrap ((f : Int) + 1) = (f : Int) + 1 := wrap64 (by omega)
  by_cases hi : i < S.length
  · obtain ⟨d, hd⟩ : ∃ d, S[i]? = some d := ⟨_, List.getElem?_eq_getElem hi⟩
    by_cases hp : p < P.length
    · obtain ⟨c, hc⟩ : ∃ c, P[p]? = some c := ⟨_, List.getElem?_eq_getElem hp⟩
      by_cases h42 : c = 42
      · subst h42
        obtain ⟨k1, k2⟩ := hI.star hc hi
        simp (maxSteps := 4000000) [List.getElem?_cons_zero, List.getElem?_cons_succ, -getElem?_pos, -Prod.exists, hi, hp, hc, w1]
        exact ⟨(p + 1, i, p, i), k1, k2, by simp⟩
      · have hc42 : ¬ c.toNat = 42 := fun e => h42 (UInt8.toNat_inj.1 e)
        have noM : ¬ one c d → ¬ RG P S p i := fun ho => RG_no hc h42 hd ho
        by_cases hcd : c = d
        · obtain ⟨k1, k2⟩ := hI.one hc hd h42 (.inl hcd)
          subst hcd
          simp (maxSteps := 4000000) [List.getElem?_cons_zero, List.getElem?_cons_succ, -getElem?_pos, -regionA_true, -Prod.exists, hi, hp, hc, h42]
          refine Post_bndD [] _ (by rfl) (by simp (maxSteps := 4000000) [List.getElem?_cons_zero, List.getElem?_cons_succ, ]; exact rfl) ?_
          repeat (first
            | refine PostD_go _ (by rfl) (by rfl) (by simp (maxSteps := 4000000) [List.getElem?_cons_zero, List.getElem?_cons_succ, -getElem?_pos, hi, hp, hc, hd]; exact rfl) (by first | exact .inl rfl | exact .inr rfl) (by rfl) ?_
            | refine PostD_no1 _ (by rfl) (by rfl) (by simp (maxSteps := 4000000) [List.getElem?_cons_zero, List.getElem?_cons_succ, ]; exact rfl) ?_)
          refine PostD_end ?_
          simp (maxSteps := 4000000) [List.getElem?_cons_zero, List.getElem?_cons_succ, -Prod.exists, w1, w2]
          exact ⟨(p + 1, i + 1, st, f), k1, k2, by simp⟩
        · have hcd' : ¬ c.toNat = d.toNat := fun e => hcd (UInt8.toNat_inj.1 e)
          by_cases h63 : c = 63
          · subst h63
            have hcn : ¬ 63 = d.toNat := fun e => hcd (UInt8.toNat_inj.1 e)
            by_cases hd47 : d = 47
            · subst hd47
              have hR := noM (fun h => h.elim (fun h => by cases h) fun h => h.2 rfl)
              simp (maxSteps := 4000000) [List.getElem?_cons_zero, List.getElem?_cons_succ, -getElem?_pos, -regionA_true, -Prod.exists, hi, hp, hc, h42]
              refine Post_bndD [] _ (by rfl) (by simp (maxSteps := 4000000) [List.getElem?_cons_zero, List.getElem?_cons_succ, ]; exact rfl) ?_
              repeat (first
                | refine PostD_go _ (by rfl) (by rfl) (by simp (maxSteps := 4000000) [List.getElem?_cons_zero, List.getElem?_cons_succ, -getElem?_pos, hi, hp, hc, hd]; exact rfl) (by first | exact .inl rfl | exact .inr rfl) (by rfl) ?_
                | refine PostD_no1 _ (by rfl) (by rfl) (by simp (maxSteps := 4000000) [List.getElem?_cons_zero, List.getElem?_cons_succ, ]; exact rfl) ?_)
              refine PostD_end ?_
              rcases hst with rfl | ⟨k, rfl⟩
              · have hno := hI.stop hR (.inl rfl)
                have hg : globB P S = false := by unfold globB; simp [hno]
                simp (maxSteps := 4000000) [List.getElem?_cons_zero, List.getElem?_cons_succ, hg, Tryz.results31]
              · have hfi : f ≤ i := hI.fi
                obtain ⟨e, he⟩ : ∃ e, S[f]? = some e := ⟨_, List.getElem?_eq_getElem (by omega)⟩
                have w4 : IntKind.i64.wrap ((k : Int) + 1) = (k : Int) + 1 := wrap64 (by have := hI.kl; omega)
                by_cases he47 : e = 47
                · subst he47
                  have hno := hI.stop hR (.inr he)
                  have hg : globB P S = false := by unfold globB; simp [hno]
                  simp (maxSteps := 4000000) [List.getElem?_cons_zero, List.getElem?_cons_succ, -getElem?_pos, he, hg, Tryz.results31]
                · obtain ⟨k1, k2⟩ := hI.next hi hR he he47
                  simp (maxSteps := 4000000) [List.getElem?_cons_zero, List.getElem?_cons_succ, -getElem?_pos, -Prod.exists, he, he47, w3, w4]
                  exact ⟨(k + 1, f + 1, k, f + 1), k1, k2, by simp⟩
            · obtain ⟨k1, k2⟩ := hI.one hc hd h42 (.inr ⟨rfl, hd47⟩)
              simp (maxSteps := 4000000) [List.getElem?_cons_zero, List.getElem?_cons_succ, -getElem?_pos, -regionA_true, -Prod.exists, hi, hp, hc, h42]
              refine Post_bndD [] _ (by rfl) (by simp (maxSteps := 4000000) [List.getElem?_cons_zero, List.getElem?_cons_succ, ]; exact rfl) ?_
              repeat (first
                | refine PostD_go _ (by rfl) (by rfl) (by simp (maxSteps := 4000000) [List.getElem?_cons_zero, List.getElem?_cons_succ, -getElem?_pos, hi, hp, hc, hd, hcd, hcn, hd47]; exact rfl) (by first | exact .inl rfl | exact .inr rfl) (by rfl) ?_
                | refine PostD_no1 _ (by rfl) (by rfl) (by simp (maxSteps := 4000000) [List.getElem?_cons_zero, List.getElem?_cons_succ, ]; exact rfl) ?_)
              refine PostD_end ?_
              simp (maxSteps := 4000000) [List.getElem?_cons_zero, List.getElem?_cons_succ, -Prod.exists, w1, w2]
              exact ⟨(p + 1, i + 1, st, f), k1, k2, by simp⟩
          · have hR := noM (fun h => h.elim hcd fun h => h63 h.1)
            simp (maxSteps := 4000000) [List.getElem?_cons_zero, List.getElem?_cons_succ, -getElem?_pos, -regionA_true, -Prod.exists, hi, hp, hc, h42]
            refine Post_bndD [] _ (by rfl) (by simp (maxSteps := 4000000) [List.getElem?_cons_zero, List.getElem?_cons_succ, ]; exact rfl) ?_
            repeat (first
              | refine PostD_go _ (by rfl) (by rfl) (by simp (maxSteps := 4000000) [List.getElem?_cons_zero, List.getElem?_cons_succ, -getElem?_pos, hi, hp, hc, hd, hcd, h63]; exact rfl) (by first | exact .inl rfl | exact .inr rfl) (by rfl) ?_
              | refine PostD_no1 _ (by rfl) (by rfl) (by simp (maxSteps := 4000000) [List.getElem?_cons_zero, List.getElem?_cons_succ, ]; exact rfl) ?_)
            refine PostD_end ?_
            rcases hst with rfl | ⟨k, rfl⟩
            · have hno := hI.stop hR (.inl rfl)
              have hg : globB P S = false := by unfold globB; simp [hno]
              simp (maxSteps := 4000000) [List.getElem?_cons_zero, List.getElem?_cons_succ, hg, Tryz.results31]
            · have hfi : f ≤ i := hI.fi
              obtain ⟨e, he⟩ : ∃ e, S[f]? = some e := ⟨_, List.getElem?_eq_getElem (by omega)⟩
              have w4 : IntKind.i64.wrap ((k : Int) + 1) = (k : Int) + 1 := wrap64 (by have := hI.kl; omega)
              by_cases he47 : e = 47
              · subst he47
                have hno := hI.stop hR (.inr he)
                have hg : globB P S = false := by unfold globB; simp [hno]
                simp (maxSteps := 4000000) [List.getElem?_cons_zero, List.getElem?_cons_succ, -getElem?_pos, he, hg, Tryz.results31]
              · obtain ⟨k1, k2⟩ := hI.next hi hR he he47
                simp (maxSteps := 4000000) [List.getElem?_cons_zero, List.getElem?_cons_succ, -getElem?_pos, -Prod.exists, he, he47, w3, w4]
                exact ⟨(k + 1, f + 1, k, f + 1), k1, k2, by simp⟩
    · have hR : ¬ RG P S p i := RG_past (by omega) hi
      simp (maxSteps := 4000000) [List.getElem?_cons_zero, List.getElem?_cons_succ, -getElem?_pos, -regionA_true, -Prod.exists, hi, hp]
      refine Post_bndD [] _ (by rfl) (by simp (maxSteps := 4000000) [List.getElem?_cons_zero, List.getElem?_cons_succ, ]; exact rfl) ?_
      repeat (first
        | refine PostD_go _ (by rfl) (by rfl) (by simp (maxSteps := 4000000) [List.getElem?_cons_zero, List.getElem?_cons_succ, -getElem?_pos, hi, hp]; exact rfl) (by first | exact .inl rfl | exact .inr rfl) (by rfl) ?_
        | refine PostD_no1 _ (by rfl) (by rfl) (by simp (maxSteps := 4000000) [List.getElem?_cons_zero, List.getElem?_cons_succ, ]; exact rfl) ?_)
      refine PostD_end ?_
      rcases hst with rfl | ⟨k, rfl⟩
      · have hno := hI.stop hR (.inl rfl)
        have hg : globB P S = false := by unfold globB; simp [hno]
        simp (maxSteps := 4000000) [List.getElem?_cons_zero, List.getElem?_cons_succ, hg, Tryz.results31]
      · have hfi : f ≤ i := hI.fi
        obtain ⟨e, he⟩ : ∃ e, S[f]? = some e := ⟨_, List.getElem?_eq_getElem (by omega)⟩
        have w4 : IntKind.i64.wrap ((k : Int) + 1) = (k : Int) + 1 := wrap64 (by have := hI.kl; omega)
        by_cases he47 : e = 47
        · subst he47
          have hno := hI.stop hR (.inr he)
          have hg : globB P S = false := by unfold globB; simp [hno]
          simp (maxSteps := 4000000) [List.getElem?_cons_zero, List.getElem?_cons_succ, -getElem?_pos, he, hg, Tryz.results31]
        · obtain ⟨k1, k2⟩ := hI.next hi hR he he47
          simp (maxSteps := 4000000) [List.getElem?_cons_zero, List.getElem?_cons_succ, -getElem?_pos, -Prod.exists, he, he47, w3, w4]
          exact ⟨(k + 1, f + 1, k, f + 1), k1, k2, by simp⟩
  · obtain rfl : i = S.length := by omega
    have hD := hI.done
    have hg : globB P S = (Lib.trimB (P.drop p) 42 == []) := by
      rw [Bool.eq_iff_iff, globB_iff, hD, beq_iff_eq, trimB_nil]
    simp (maxSteps := 4000000) [List.getElem?_cons_zero, List.getElem?_cons_succ, b1, hT, hg, Tryz.results31]
end Go.Proofs.Tryz.Ai
end
section
/- mod: numbers, identifiers. -/
namespace Go.Proofs.Tryz.Ai
open Go Go.AI Go.Proofs
set_option maxHeartbeats 1000000
set_option linter.unusedVariables false

theorem allD_eq (s : List UInt8) (hl : s.length ≤ 2 ^ 31) (σ) : ev 169 [.str s, .fn 170 []] σ = some (.bool (allB isD s), σ) :=
  all_eq s hl _ _ _ (by decide) σ fun c => digit_eq c σ
theorem plain_eq (s : List UInt8) (σ) : ev 228 [.str s] σ = some (.bool (plainB s), σ) := by
  refine EV_post rfl Tryz.func228 rfl (by simp [Tryz.ntmps228]) (by kernel_rfl) (by kernel_rfl) ?_
  cases s with
  | nil => simp (maxSteps := 4000000) [List.getElem?_cons_zero, List.getElem?_cons_succ, plainB, Tryz.results228]
  | cons c r =>
    cases r with
    | nil =>
      by_cases hc : c = 48
      · subst hc; simp (maxSteps := 4000000) [List.getElem?_cons_zero, List.getElem?_cons_succ, plainB, Tryz.results228]
      · simp (maxSteps := 4000000) [List.getElem?_cons_zero, List.getElem?_cons_succ, plainB, hc, Tryz.results228]
    | cons d r =>
      by_cases hc : c = 48
      · subst hc; simp (maxSteps := 4000000) [List.getElem?_cons_zero, List.getElem?_cons_succ, plainB, Tryz.results228]
      · simp (maxSteps := 4000000) [List.getElem?_cons_zero, List.getElem?_cons_succ, plainB, hc, Tryz.results228]
theorem number_eq (s : List UInt8) (hl : s.length ≤ 2 ^ 31) (σ) : ev 203 [.str s] σ = some (.tup [.int .i64 ((numB s).getD 0), .bool (numB s).isSome], σ) := by
  have ha := allD_eq s hl
  have hp := plain_eq s
  refine EV_post rfl Tryz.func203 rfl (by simp [Tryz.ntmps203]) (by kernel_rfl) (by kernel_rfl) ?_
  by_cases h1 : allB isD s = true
  · by_cases h2 : plainB s = true
    · by_cases h3 : s.length ≤ 9
      · have h4 : numB s = some (valB s) := by simp [numB, numOk, h1, h2, h3]
        have h5 : s.all isD = true ∧ s ≠ [] := by simpa [allB] using h1
        have hA := Atoi_eq s h5.1 h5.2 h3
        have h6 : ¬ 9 < s.length := by omega
        simp (maxSteps := 4000000) [List.getElem?_cons_zero, List.getElem?_cons_succ, ha, hp, h1, h2, h6, hA, h4, Tryz.results203]
      · have h4 : numB s = none := by simp [numB, numOk, h3]
        have h6 : 9 < s.length := by omega
        simp (maxSteps := 4000000) [List.getElem?_cons_zero, List.getElem?_cons_succ, ha, hp, h1, h2, h6, h4, Tryz.results203]
    · have h4 : numB s = none := by simp [numB, numOk, h2]
      simp (maxSteps := 4000000) [List.getElem?_cons_zero, List.getElem?_cons_succ, ha, hp, h1, h2, h4, Tryz.results203]
  · have h4 : numB s = none := by simp [numB, numOk, h1]
    simp (maxSteps := 4000000) [List.getElem?_cons_zero, List.getElem?_cons_succ, ha, hp, h1, h4, Tryz.results203]
theorem word_eq (o : List UInt8) (σ) : ev 152 [.str o] σ = some (.fn 184 [.gp σ.length 0 (some (9, 1))], σ ++ [[.str o]]) := by
  refine EV_post rfl Tryz.func152 rfl (by simp [Tryz.ntmps152]) (by kernel_rfl) (by kernel_rfl) ?_
  simp (maxSteps := 4000000) [List.getElem?_cons_zero, List.getElem?_cons_succ, Tryz.results152]
theorem word1_eq (o : List UInt8) (b : Nat) (sh) (c : UInt8) (σ : List (List AV)) (hb : σ[b]? = some [.str o]) : ev 184 [.int .u8 c.toNat, .gp b 0 sh] σ = some (.bool (wordB o c), σ) := by
  have h1 := digit_eq c
  have h2 := upper_eq c
  have h3 := lower_eq c
  have h4 := IndexByte_eq o c
  have h5 := ixI_nonneg c o
  refine EV_post rfl Tryz.func184 rfl (by simp [Tryz.ntmps184]) (by kernel_rfl) (by kernel_rfl) ?_
  by_cases d1 : isD c = true
  · simp (maxSteps := 4000000) [List.getElem?_cons_zero, List.getElem?_cons_succ, -getElem?_pos, h1, d1, wordB, Tryz.results184]
  · by_cases d2 : isU c = true
    · simp (maxSteps := 4000000) [List.getElem?_cons_zero, List.getElem?_cons_succ, -getElem?_pos, h1, h2, d1, d2, wordB, Tryz.results184]
    · by_cases d3 : isL c = true
      · simp (maxSteps := 4000000) [List.getElem?_cons_zero, List.getElem?_cons_succ, -getElem?_pos, h1, h2, h3, d1, d2, d3, wordB, Tryz.results184]
      · simp (maxSteps := 4000000) [List.getElem?_cons_zero, List.getElem?_cons_succ, -getElem?_pos, h1, h2, h3, h4, h5, hb, d1, d2, d3, wordB, Tryz.results184]
theorem allW_eq (s o : List UInt8) (hl : s.length ≤ 2 ^ 31) (b : Nat) (sh) (σ : List (List AV)) (hb : σ[b]? = some [.str o]) : ev 169 [.str s, .fn 184 [.gp b 0 sh]] σ = some (.bool (allB (wordB o) s), σ) :=
  all_eq s hl _ _ _ (by decide) σ fun c => word1_eq o b sh c σ hb
end Go.Proofs.Tryz.Ai
end
section
/- mod: versions are read. -/
namespace Go.Proofs.Tryz.Ai
open Go Go.AI Go.Proofs
set_option maxHeartbeats 2000000
set_option linter.unusedVariables false

theorem identifiers_eq (p : List UInt8) (hl : p.length ≤ 2 ^ 30) (σ) : ev 204 [.str p] σ = some (.bool (idsB p), σ) := by
  have hS := Split1_eq p hl 46
  have hw : ∀ τ : List (List AV), ev 152 [.str [45]] (σ ++ τ) = some (.fn 184 [.gp (σ.length + τ.length) 0 (some (9, 1))], σ ++ (τ ++ [[.str [45]]])) := by
    intro τ; rw [word_eq]; simp
  obtain ⟨L, hL⟩ : ∃ L, splitB 46 p = L := ⟨_, rfl⟩
  have hm : ∀ x ∈ L, x.length ≤ 2 ^ 30 := fun x hx => Nat.le_trans (splitB_le (hL ▸ hx)) hl
  have hn : L.length ≤ 2 ^ 31 := by rw [← hL]; have := splitB_many 46 p; omega
  have hAll : idsB p = L.all idB := by unfold idsB; rw [hL]
  rw [hL] at hS
  refine EV_post rfl Tryz.func204 rfl (by simp [Tryz.ntmps204]) (by kernel_rfl) (by kernel_rfl) ?_
  simp (maxSteps := 4000000) [List.getElem?_cons_zero, List.getElem?_cons_succ, hS]
  refine Post_loop (I := fun q : Nat × List (List AV) => ⟨[(6, .sl (.ex 9 1) (L.map .str)), (7, .int .i64 L.length), (8, .int .i64 q.1)], [], σ ++ q.2⟩) (Pr := fun q => q.1 ≤ L.length ∧ ∀ x ∈ L.take q.1, idB x = true) (μ := fun q => L.length - q.1) (a := (0, [])) (by simp) (by simp) ?_
  rintro ⟨i, τ⟩ ⟨hi, ha⟩
  simp only at hi ha ⊢
  by_cases hc : i < L.length
  · obtain ⟨x, hx⟩ : ∃ x, L[i] = x := ⟨_, rfl⟩
    have hx2 : L[i]? = some x := by rw [← hx]; exact List.getElem?_eq_getElem hc
    have hxl := hm x (hx ▸ List.getElem_mem hc)
    have h1 := allW_eq x [45] (by omega) (σ.length + τ.length) (some (9, 1)) (σ ++ (τ ++ [[.str [45]]])) (by simp)
    have h2 := allD_eq x (by omega) (σ ++ (τ ++ [[.str [45]]]))
    have h3 := plain_eq x (σ ++ (τ ++ [[.str [45]]]))
    have w6 : IntKind.i64.wrap ((i : Int) + 1) = (i : Int) + 1 := wrap64 (by omega)
    by_cases hq : idB x = true
    · have hn : ∀ y ∈ L.take (i + 1), idB y = true := take_all hc ha (by rw [hx]; exact hq)
      unfold idB at hq
      simp only [Bool.and_eq_true, Bool.not_eq_true'] at hq
      by_cases hd : allB isD x = true
      · have hp : plainB x = true := by simpa [hd] using hq.2
        simp (maxSteps := 4000000) [List.getElem?_cons_zero, List.getElem?_cons_succ, -getElem?_pos, hc, hx2, hw, h1, h2, h3, hq.1, hd, hp, w6]
        exact ⟨i + 1, ⟨by omega, hn⟩, by omega, by simp⟩
      · simp (maxSteps := 4000000) [List.getElem?_cons_zero, List.getElem?_cons_succ, -getElem?_pos, hc, hx2, hw, h1, h2, h3, hq.1, hd, w6]
        exact ⟨i + 1, ⟨by omega, hn⟩, by omega, by simp⟩
    · have hf : idsB p = false := by rw [hAll, Bool.eq_false_iff]; intro h; exact hq (List.all_eq_true.1 h _ (hx ▸ List.getElem_mem hc))
      by_cases ha : allB (wordB [45]) x = true
      · by_cases hd : allB isD x = true
        · have hp : plainB x = false := by simpa [idB, ha, hd] using hq
          simp (maxSteps := 4000000) [List.getElem?_cons_zero, List.getElem?_cons_succ, -getElem?_pos, hc, hx2, hw, h1, h2, h3, ha, hd, hp, hf, Tryz.results204]
        · exact absurd (by simp [idB, ha, hd]) hq
      · simp (maxSteps := 4000000) [List.getElem?_cons_zero, List.getElem?_cons_succ, -getElem?_pos, hc, hx2, hw, h1, h2, h3, ha, hf, Tryz.results204]
  · have hi' : i = L.length := by omega
    subst hi'
    rw [List.take_length] at ha
    have ht : idsB p = true := by rw [hAll]; exact List.all_eq_true.2 ha
    simp (maxSteps := 4000000) [List.getElem?_cons_zero, List.getElem?_cons_succ, ht, Tryz.results204]

/-- what is read, as the program holds it -/
def verA : Option Ver → AV
  | some v => .agg [.int .i64 v.ma, .int .i64 v.mi, .int .i64 v.pa, .str v.pre]
  | none => .agg [.int .i64 0, .int .i64 0, .int .i64 0, .str []]
theorem coreOf_no {r : List UInt8} (h : (splitB 46 r).length ≠ 3) : coreOf r = none := by
  unfold coreOf
  split
  · rename_i a b c hs; rw [hs] at h; simp at h
  · rfl
theorem read_eq (s : List UInt8) (hl : s.length ≤ 2 ^ 30) (σ) : ev 171 [.str s] σ = some (.tup [verA (readB s), .bool (readB s).isSome], σ) := by
  have hp := fun a b => HasPrefix_eq a b
  refine EV_post rfl Tryz.func171 rfl (by simp [Tryz.ntmps171]) (by kernel_rfl) (by kernel_rfl) ?_
  by_cases h60 : 60 < s.length
  · have hr : readB s = none := by simp [readB, h60]
    simp (maxSteps := 4000000) [List.getElem?_cons_zero, List.getElem?_cons_succ, h60, hr, verA, Tryz.results171]
  · cases s with
    | nil => simp (maxSteps := 4000000) [List.getElem?_cons_zero, List.getElem?_cons_succ, hp, readB, verA, Tryz.results171]
    | cons c r =>
      by_cases hc : c = 118
      · subst hc
        have hr : readB (118 :: r) = match coreOf (cutB 45 r).1 with
            | none => none
            | some (x, y, z) => if (cutB 45 r).2.2 && !idsB (cutB 45 r).2.1 then none else some ⟨x, y, z, (cutB 45 r).2.1⟩ := by
          unfold readB; rw [if_neg h60]; rfl
        simp only [List.length_cons] at h60 hl
        have hcl := cutB_le 45 r
        obtain ⟨⟨k, p, b⟩, hk⟩ : ∃ x, cutB 45 r = x := ⟨_, rfl⟩
        have hC := Cut1_eq r (by omega) 45
        rw [hk] at hC hr hcl
        simp only at hC hr hcl
        have hS := Split1_eq k (by omega) 46
        have hI := identifiers_eq p (by omega)
        have h61 : ¬ (60 : Int) < (r.length : Int) + 1 := by omega
        have v1 : IntKind.i64.wrap ((r.length : Int) + 1) = (r.length : Int) + 1 := wrap64 (by omega)
        have v2 : List.isPrefixOf [(118 : UInt8)] (118 :: r) = true := by simp [List.isPrefixOf]
        by_cases h3 : (splitB 46 k).length = 3
        · obtain ⟨x, y, z, hxyz⟩ : ∃ x y z, splitB 46 k = [x, y, z] := by
            match hq : splitB 46 k, h3 with
            | [x, y, z], _ => exact ⟨x, y, z, rfl⟩
          have hmem : ∀ w ∈ splitB 46 k, w.length ≤ 2 ^ 30 := fun w hw => by have := splitB_le hw; omega
          rw [hxyz] at hS hmem
          have nx := number_eq x (by have := hmem x (by simp); omega)
          have ny := number_eq y (by have := hmem y (by simp); omega)
          have nz := number_eq z (by have := hmem z (by simp); omega)
          have hco : coreOf k = match numB x, numB y, numB z with
              | some x, some y, some z => some (x, y, z)
              | _, _, _ => none := by simp only [coreOf, hxyz]; cases numB x <;> cases numB y <;> cases numB z <;> rfl
          rw [hco] at hr
          simp only [List.map_cons, List.map_nil] at hS
          cases ex : numB x with
          | none =>
            rw [ex] at nx hr
            simp (maxSteps := 4000000) [List.getElem?_cons_zero, List.getElem?_cons_succ, hp, v1, v2, h61, hC, hS, nx, ny, nz, hr, verA, Tryz.results171]
          | some x' =>
            cases ey : numB y with
            | none =>
              rw [ex] at nx; rw [ey] at ny; rw [ex, ey] at hr
              simp (maxSteps := 4000000) [List.getElem?_cons_zero, List.getElem?_cons_succ, hp, v1, v2, h61, hC, hS, nx, ny, nz, hr, verA, Tryz.results171]
            | some y' =>
              cases ez : numB z with
              | none =>
                rw [ex] at nx; rw [ey] at ny; rw [ez] at nz; rw [ex, ey, ez] at hr
                simp (maxSteps := 4000000) [List.getElem?_cons_zero, List.getElem?_cons_succ, hp, v1, v2, h61, hC, hS, nx, ny, nz, hr, verA, Tryz.results171]
              | some z' =>
                rw [ex] at nx; rw [ey] at ny; rw [ez] at nz; rw [ex, ey, ez] at hr
                simp only at hr
                cases b with
                | false => simp (maxSteps := 4000000) [List.getElem?_cons_zero, List.getElem?_cons_succ, hp, v1, v2, h61, hC, hS, nx, ny, nz, hr, verA, Tryz.results171]
                | true =>
                  by_cases hi : idsB p = true
                  · rw [hi] at hr hI
                    simp (maxSteps := 4000000) [List.getElem?_cons_zero, List.getElem?_cons_succ, hp, v1, v2, h61, hC, hS, nx, ny, nz, hI, hr, verA, Tryz.results171]
                  · have hi : idsB p = false := by simpa using hi
                    rw [hi] at hr hI
                    simp (maxSteps := 4000000) [List.getElem?_cons_zero, List.getElem?_cons_succ, hp, v1, v2, h61, hC, hS, nx, ny, nz, hI, hr, verA, Tryz.results171]
        · rw [coreOf_no h3] at hr
          have h3' : ¬ ((splitB 46 k).length : Int) = 3 := by omega
          simp (maxSteps := 4000000) [List.getElem?_cons_zero, List.getElem?_cons_succ, hp, v1, v2, h61, hC, hS, h3, hr, verA, Tryz.results171]
      · have hr : readB (c :: r) = none := by unfold readB; rw [if_neg h60]; simp [hc]
        have v2 : List.isPrefixOf [(118 : UInt8)] (c :: r) = false := by simp [List.isPrefixOf]; exact fun e => hc e.symm
        simp only [List.length_cons] at h60
        have h61 : ¬ (60 : Int) < (r.length : Int) + 1 := by omega
        simp (maxSteps := 4000000) [List.getElem?_cons_zero, List.getElem?_cons_succ, hp, h61, v2, hr, verA, Tryz.results171]
end Go.Proofs.Tryz.Ai
end
section
/- mewsref3: versions are read as the document says. -/
namespace Go.AI
theorem Post_mono {x : Option (Ex × St)} {K1 K : Ex → St → Prop} (h : Post x K1) (k : ∀ e s, K1 e s → K e s) : Post x K := by
  obtain ⟨e, s, h1, h2⟩ := h; exact ⟨e, s, h1, k e s h2⟩
end Go.AI
namespace Go.Proofs.Tryz.Ai
open Go Go.AI Go.Proofs
set_option maxHeartbeats 2000000
set_option linter.unusedVariables false

theorem rdigits_eq (s : List UInt8) (hl : s.length ≤ 2 ^ 31) (σ) : ev 174 [.str s] σ = some (.bool (allB isD s), σ) := by
  have hp := fun c σ => rdigit_eq c σ
  refine EV_post rfl Tryz.func174 rfl (by simp [Tryz.ntmps174]) (by kernel_rfl) (by kernel_rfl) ?_
  unfold allB
  simp (maxSteps := 4000000) (disch := omega) [dT, dF, wrap64]
  refine Post_loop (I := fun i : Nat => ⟨[(0, .str s), (3, .int .i64 i)], [], σ⟩) (Pr := fun i => i ≤ s.length ∧ ∀ x ∈ s.take i, isD x = true) (μ := fun i => s.length - i) (a := 0) (by simp) (by simp) ?_
  rintro i ⟨hi, hn⟩
  by_cases hc : i < s.length
  · by_cases hq : isD s[i] = true
    · simp (maxSteps := 4000000) (disch := omega) [dT, dF, wrap64, hc, hp, hq]
      refine ⟨i + 1, ⟨by omega, ?_⟩, by omega, by simp⟩
      exact take_all hc hn hq
    · have hq' : isD s[i] = false := by simpa using hq
      have h2 : s.all isD = false := by
        rw [Bool.eq_false_iff]; intro h; exact hq (List.all_eq_true.1 h _ (List.getElem_mem hc))
      simp (maxSteps := 4000000) (disch := omega) [dT, dF, wrap64, hc, hp, hq', h2, Tryz.results174]
  · have hi' : i = s.length := by omega
    subst hi'
    rw [List.take_length] at hn
    have h2 : s.all isD = true := List.all_eq_true.2 hn
    cases s with
    | nil => simp (maxSteps := 4000000) (disch := omega) [dT, dF, wrap64, Tryz.results174]
    | cons a r => simp (maxSteps := 4000000) (disch := omega) [dT, dF, wrap64, hc, h2, Tryz.results174]
theorem rnumber_eq (s : List UInt8) (hl : s.length ≤ 2 ^ 31) (σ) : ev 205 [.str s] σ = some (.bool (numOk s), σ) := by
  have hd := rdigits_eq s hl
  refine EV_post rfl Tryz.func205 rfl (by simp [Tryz.ntmps205]) (by kernel_rfl) (by kernel_rfl) ?_
  by_cases h1 : allB isD s = true
  · obtain ⟨c, r, hcr⟩ : ∃ c r, s = c :: r := by cases s with
      | nil => simp [allB] at h1
      | cons c r => exact ⟨c, r, rfl⟩
    by_cases h2 : s.length ≤ 9
    · have g0 : s[0]? = some c := by rw [hcr]; rfl
      have h4 : numOk s = plainB s := by simp [numOk, h1, h2]
      by_cases h3 : s = [48]
      · subst h3
        simp (maxSteps := 4000000) [List.getElem?_cons_zero, List.getElem?_cons_succ, hd, h1, numOk, plainB, Tryz.results205]
      · have h3' : (s == [48]) = false := by simpa using h3
        by_cases h5 : c = 48
        · have h6 : plainB s = false := by
            rw [hcr, h5]; simp [plainB]; rintro rfl; exact h3 (by rw [hcr, h5])
          subst h5
          simp (maxSteps := 4000000) [List.getElem?_cons_zero, List.getElem?_cons_succ, -getElem?_pos, hd, h1, h2, h3', g0, h4, h6, Tryz.results205]
        · have h6 : plainB s = true := by rw [hcr]; simp [plainB, h5]
          simp (maxSteps := 4000000) [List.getElem?_cons_zero, List.getElem?_cons_succ, -getElem?_pos, hd, h1, h2, h3', g0, h5, h4, h6, Tryz.results205]
    · have h4 : numOk s = false := by simp [numOk, h2]
      simp (maxSteps := 4000000) [List.getElem?_cons_zero, List.getElem?_cons_succ, hd, h1, h2, h4, Tryz.results205]
  · have h4 : numOk s = false := by simp [numOk, h1]
    simp (maxSteps := 4000000) [List.getElem?_cons_zero, List.getElem?_cons_succ, hd, h1, h4, Tryz.results205]
theorem ridentifier_eq (s : List UInt8) (hl : s.length ≤ 2 ^ 31) (σ) : ev 207 [.str s] σ = some (.bool (idB s), σ) := by
  have hd := rdigits_eq s hl
  refine EV_post rfl Tryz.func207 rfl (by simp [Tryz.ntmps207]) (by kernel_rfl) (by kernel_rfl) ?_
  simp (maxSteps := 4000000) (disch := omega) [dT, dF, wrap64]
  refine Post_loop (I := fun i : Nat => ⟨[(0, .str s), (3, .int .i64 i)], [], σ⟩) (Pr := fun i => i ≤ s.length ∧ ∀ x ∈ s.take i, wordB [45] x = true) (μ := fun i => s.length - i) (a := 0) (by simp) (by simp) ?_
  rintro i ⟨hi, hn⟩
  by_cases hc : i < s.length
  · obtain ⟨c, hcx⟩ : ∃ c, s[i] = c := ⟨_, rfl⟩
    have hx : s[i]? = some c := by rw [← hcx]; exact List.getElem?_eq_getElem hc
    have e0 : IntKind.i64.wrap ((i : Int) + 1) = (i : Int) + 1 := wrap64 (by omega)
    have q1 := rdigit_eq c
    have q2 := rlower_eq c
    have q3 := rupper_eq c
    have go : wordB [45] c = true → ∀ x ∈ s.take (i + 1), wordB [45] x = true := fun h => take_all hc hn (by rw [hcx]; exact h)
    by_cases d1 : isD c = true
    · simp (maxSteps := 4000000) [List.getElem?_cons_zero, List.getElem?_cons_succ, -getElem?_pos, hc, hx, q1, d1, e0]
      exact ⟨i + 1, ⟨by omega, go (by simp [wordB, d1])⟩, by omega, by simp⟩
    · by_cases d2 : isL c = true
      · simp (maxSteps := 4000000) [List.getElem?_cons_zero, List.getElem?_cons_succ, -getElem?_pos, hc, hx, q1, q2, d1, d2, e0]
        exact ⟨i + 1, ⟨by omega, go (by simp [wordB, d2])⟩, by omega, by simp⟩
      · by_cases d3 : isU c = true
        · simp (maxSteps := 4000000) [List.getElem?_cons_zero, List.getElem?_cons_succ, -getElem?_pos, hc, hx, q1, q2, q3, d1, d2, d3, e0]
          exact ⟨i + 1, ⟨by omega, go (by simp [wordB, d3])⟩, by omega, by simp⟩
        · by_cases d4 : c = 45
          · have z := go (by simp [wordB, d4])
            subst d4
            have q1' : ∀ σ, ev 191 [.int .u8 45] σ = some (.bool false, σ) := fun σ => rdigit_eq 45 σ
            have q2' : ∀ σ, ev 192 [.int .u8 45] σ = some (.bool false, σ) := fun σ => rlower_eq 45 σ
            have q3' : ∀ σ, ev 193 [.int .u8 45] σ = some (.bool false, σ) := fun σ => rupper_eq 45 σ
            simp (maxSteps := 4000000) [List.getElem?_cons_zero, List.getElem?_cons_succ, -getElem?_pos, hc, hx, q1', q2', q3', e0]
            exact ⟨i + 1, ⟨by omega, z⟩, by omega, by simp⟩
          · have hf : idB s = false := by
              have : s.all (wordB [45]) = false := by
                rw [Bool.eq_false_iff]; intro h
                have := List.all_eq_true.1 h _ (List.getElem_mem hc)
                rw [hcx] at this
                simp [wordB, d1, d2, d3, d4] at this
              simp [idB, allB, this]
            simp (maxSteps := 4000000) [List.getElem?_cons_zero, List.getElem?_cons_succ, -getElem?_pos, hc, hx, q1, q2, q3, d1, d2, d3, d4, hf, Tryz.results207]
  · have hi' : i = s.length := by omega
    subst hi'
    rw [List.take_length] at hn
    have h2 : s.all (wordB [45]) = true := List.all_eq_true.2 hn
    cases s with
    | nil => simp (maxSteps := 4000000) [List.getElem?_cons_zero, List.getElem?_cons_succ, idB, allB, Tryz.results207]
    | cons c r =>
      have h3 : idB (c :: r) = !(allB isD (c :: r) && !plainB (c :: r)) := by simp [idB, allB, h2]
      by_cases d1 : allB isD (c :: r) = true
      · by_cases d2 : c :: r = [48]
        · injection d2 with d2 d3
          subst d2 d3
          simp (maxSteps := 4000000) [List.getElem?_cons_zero, List.getElem?_cons_succ, hd, d1, h3, plainB, Tryz.results207]
        · by_cases d3 : c = 48
          · subst d3
            have d4 : ¬ r = [] := fun e => d2 (by rw [e])
            have h6 : plainB (48 :: r) = false := by simp [plainB, d4]
            have d5 : r.isEmpty = false := by simpa using d4
            simp (maxSteps := 4000000) [List.getElem?_cons_zero, List.getElem?_cons_succ, hd, d1, d4, d5, h3, h6, Tryz.results207]
          · have h6 : plainB (c :: r) = true := by simp [plainB, d3]
            simp (maxSteps := 4000000) [List.getElem?_cons_zero, List.getElem?_cons_succ, hd, d1, d3, h3, h6, Tryz.results207]
      · simp (maxSteps := 4000000) [List.getElem?_cons_zero, List.getElem?_cons_succ, hd, d1, h3, Tryz.results207]
end Go.Proofs.Tryz.Ai
end
section
/- mewsref: pieces, numbers; mewsref3.Parts. -/
namespace Go.Proofs.Tryz.Ai
open Go Go.AI Go.Proofs
set_option maxHeartbeats 2000000
set_option linter.unusedVariables false

theorem Cut_eq (s : List UInt8) (hl : s.length ≤ 2 ^ 30) (c : UInt8) (σ) : ev 37 [.str s, .int .u8 c.toNat] σ = some (.sl (.ex 9 1) ((splitB c s).map .str), σ) := by
  refine EV_post rfl Tryz.func37 rfl (by simp [Tryz.ntmps37]) (by kernel_rfl) (by kernel_rfl) ?_
  simp (maxSteps := 4000000) (disch := omega) [dT, dF, wrap64]
  refine Post_loop (I := fun p : List (List UInt8) × Nat × Nat => ⟨[(0, .str s), (1, .int .u8 c.toNat), (5, .sl (.ex 9 1) (p.1.map .str)), (6, .int .i64 p.2.1), (7, .int .i64 p.2.2)], [], σ⟩)
    (Pr := fun p => (p.2.2 ≤ s.length ∧ p.2.1 ≤ p.2.2 ∧ c ∉ (s.take p.2.2).drop p.2.1 ∧ p.1 ++ splitB c (s.drop p.2.1) = splitB c s) ∨ (p.2.2 = s.length + 1 ∧ p.1 = splitB c s)) (μ := fun p => s.length + 1 - p.2.2) (a := ([], 0, 0)) (by simp) (by simp) ?_
  rintro ⟨a, f, i⟩ h
  simp only at h ⊢
  rcases h with ⟨hi, hf, hn, he⟩ | ⟨hi, he⟩
  · have hlen : a.length + 1 ≤ most := by
      have h1 := congrArg List.length he
      have h2 := splitB_many c s
      have h3 := splitB_ne c (s.drop f)
      have h4 : (splitB c (s.drop f)).length ≠ 0 := fun e => h3 (List.length_eq_zero_iff.1 e)
      simp only [List.length_append] at h1
      unfold most; omega
    have e0 : IntKind.i64.wrap ((i : Int) + 1) = (i : Int) + 1 := wrap64 (by omega)
    by_cases hc : i < s.length
    · obtain ⟨x, hcx⟩ : ∃ x, s[i] = x := ⟨_, rfl⟩
      have hx : s[i]? = some x := by rw [← hcx]; exact List.getElem?_eq_getElem hc
      have hne : ¬ i = s.length := by omega
      by_cases d : x = c
      · have hs : s.drop f = (s.take i).drop f ++ c :: s.drop (i + 1) := by
          have h1 : s = s.take i ++ c :: s.drop (i + 1) := by
            rw [← d, ← hcx, ← List.drop_eq_getElem_cons hc, List.take_append_drop]
          conv => lhs; rw [h1]
          rw [List.drop_append_of_le_length (by simp; omega)]
        rw [hs, splitB_app hn] at he
        subst d
        simp (maxSteps := 4000000) [List.getElem?_cons_zero, List.getElem?_cons_succ, -getElem?_pos, hi, hne, hx, hf, e0, hlen]
        refine ⟨a ++ [(s.take i).drop f], i + 1, i + 1, .inl ⟨by omega, by omega, ?_, ?_⟩, by omega, by simp, by simp, by simp⟩
        · rw [List.drop_of_length_le (by simp; omega)]; simp
        · rw [List.append_assoc, ← he]; rfl
      · simp (maxSteps := 4000000) [List.getElem?_cons_zero, List.getElem?_cons_succ, -getElem?_pos, hi, hne, hx, d, e0]
        refine ⟨a, f, i + 1, .inl ⟨by omega, by omega, ?_, he⟩, by omega, by simp⟩
        rw [List.take_succ_eq_append_getElem hc, hcx]
        intro h
        rcases List.mem_append.1 (List.mem_of_mem_drop h) with q | q
        · rw [List.drop_append] at h
          rcases List.mem_append.1 h with h | h
          · exact hn h
          · have := List.mem_of_mem_drop h; simp at this; exact d this.symm
        · simp at q; exact d q.symm
    · have hi' : i = s.length := by omega
      subst hi'
      rw [List.take_length] at hn
      rw [splitB_not hn] at he
      simp (maxSteps := 4000000) [List.getElem?_cons_zero, List.getElem?_cons_succ, hf, e0, hlen]
      exact ⟨a ++ [s.drop f], _, _, .inr ⟨rfl, he⟩, by omega, by simp, rfl, by simp⟩
  · subst hi he
    have hz : ¬ (s.length : Int) + 1 ≤ s.length := by omega
    simp (maxSteps := 4000000) [List.getElem?_cons_zero, List.getElem?_cons_succ, hz, Tryz.results37]
theorem rAtoi_eq (s : List UInt8) (h1 : s.all isD = true) (h2 : plainB s = true) (h3 : s.length ≤ 9) (σ) : ev 206 [.str s] σ = some (.tup [.int .i64 (valB s), .bool true], σ) := by
  obtain ⟨c0, r0, hs0⟩ : ∃ c r, s = c :: r := by cases s with
    | nil => simp [plainB] at h2
    | cons c r => exact ⟨c, r, rfl⟩
  have hd0 : isD c0 = true := by rw [hs0] at h1; simp at h1; exact h1.1
  have g0 : s[0]? = some c0 := by rw [hs0]; rfl
  have e1 : ¬ c0 = 45 := by rintro rfl; revert hd0; decide
  have n2 : s.isEmpty = false := by rw [hs0]; rfl
  have n3 : ¬ 19 < s.length := by omega
  have n4 : 1 < s.length → ¬ c0 = 48 := by
    intro h e
    rw [hs0] at h h2
    simp [plainB, e] at h2
    rw [h2] at h; simp at h
  refine EV_post rfl Tryz.func206 rfl (by simp [Tryz.ntmps206]) (by kernel_rfl) (by kernel_rfl) ?_
  refine Post_mono (K1 := fun e st => finE Tryz.prog (H 206) σ Tryz.f206 (some (e, st)) = some (.tup [.int .i64 (valB s), .bool true], σ)) ?_ (fun e st h => h)
  by_cases n5 : 1 < s.length
  all_goals
    first
      | simp (maxSteps := 4000000) [List.getElem?_cons_zero, List.getElem?_cons_succ, -getElem?_pos, n2, n3, n5, g0, e1, n4 n5]
      | simp (maxSteps := 4000000) [List.getElem?_cons_zero, List.getElem?_cons_succ, -getElem?_pos, n2, n3, n5, g0, e1]
    refine Post_loop (I := fun i : Nat => ⟨[(4, .bool false), (5, .str s), (6, .int .i64 (-(valB (s.take i) : Int))), (7, .int .i64 i)], [], σ⟩) (Pr := fun i => i ≤ s.length) (μ := fun i => s.length - i) (a := 0) (by simp [valB]) (by simp) ?_
    intro i hi
    by_cases hc : i < s.length
    · obtain ⟨c, hcx⟩ : ∃ c, s[i] = c := ⟨_, rfl⟩
      have hx : s[i]? = some c := by rw [← hcx]; exact List.getElem?_eq_getElem hc
      have hd : isD c = true := by rw [← hcx]; exact List.all_eq_true.1 h1 _ (List.getElem_mem hc)
      have hd2 : 48 ≤ c.toNat ∧ c.toNat ≤ 57 := of_decide_eq_true hd
      have z1 : ¬ c.toNat < 48 := by omega
      have z2 : ¬ 57 < c.toNat := by omega
      have w1 : IntKind.u8.wrap ((c.toNat : Int) - 48) = ((c.toNat - 48 : Nat) : Int) := by rw [wrapU8 (by omega)]; omega
      have hall : (s.take i).all isD = true := by rw [List.all_eq_true]; intro x hx; exact List.all_eq_true.1 h1 _ (List.mem_of_mem_take hx)
      have hv := valB_lt _ hall
      have hv2 : (10 : Nat) ^ (s.take i).length ≤ 10 ^ 9 := Nat.pow_le_pow_right (by omega) (by simp; omega)
      obtain ⟨v, hvv⟩ : ∃ v, valB (s.take i) = v := ⟨_, rfl⟩
      rw [hvv] at hv
      obtain ⟨w, hw⟩ : ∃ w : Int, -(v : Int) = w := ⟨_, rfl⟩
      obtain ⟨d, hdd⟩ : ∃ d, c.toNat - 48 = d := ⟨_, rfl⟩
      rw [hdd] at w1
      have w4 : IntKind.i64.wrap (d : Int) = d := wrap64 (by omega)
      have w5 : IntKind.i64.wrap (-9223372036854775808 + (d : Int)) = -9223372036854775808 + (d : Int) := wrap64 (by omega)
      have w6 : IntKind.i64.wrap ((i : Int) + 1) = (i : Int) + 1 := wrap64 (by omega)
      obtain ⟨u, hu⟩ : ∃ u, (-9223372036854775808 + (d : Int)).tdiv 10 = u := ⟨_, rfl⟩
      have hu2 : -922337203685477581 ≤ u ∧ u ≤ -922337203685477579 := by
        rw [← hu, show (-9223372036854775808 + (d : Int)) = -(9223372036854775808 - (d : Int)) by omega, Int.neg_tdiv, Int.tdiv_eq_ediv_of_nonneg (by omega)]; omega
      have w7 : ¬ w < u := by omega
      have wa : IntKind.i64.wrap u = u := wrap64 (by omega)
      have w8 : IntKind.i64.wrap (10 * w) = 10 * w := wrap64 (by omega)
      have w9 : IntKind.i64.wrap (10 * w - (d : Int)) = 10 * w - (d : Int) := wrap64 (by omega)
      have hn : valB (s.take (i + 1)) = v * 10 + d := by rw [List.take_succ_eq_append_getElem hc, valB_snoc, hvv, hcx, hdd]
      simp (maxSteps := 4000000) [List.getElem?_cons_zero, List.getElem?_cons_succ, -getElem?_pos, hc, hx, hvv, hw, z1, z2, w1, w4, w5, w6, hu, wa, w7, w8, w9]
      exact ⟨i + 1, by omega, by omega, by rw [hn]; simp; omega, by simp⟩
    · have hi' : i = s.length := by omega
      subst hi'
      have hv := valB_lt _ h1
      have hv2 : (10 : Nat) ^ s.length ≤ 10 ^ 9 := Nat.pow_le_pow_right (by omega) (by omega)
      have w1 : ¬ (-(valB s : Int)) = -9223372036854775808 := by omega
      have w2 : IntKind.i64.wrap (0 - -(valB s : Int)) = (valB s : Int) := by rw [wrap64 (by omega)]; omega
      have w2' : IntKind.i64.wrap (valB s : Int) = (valB s : Int) := wrap64 (by omega)
      have w3 : ¬ (valB s : Int) = 9223372036854775808 := by omega
      simp (maxSteps := 4000000) [List.getElem?_cons_zero, List.getElem?_cons_succ, hc, w1, w2, w2', w3, Tryz.results206]
end Go.Proofs.Tryz.Ai
end
section
/- mewsref3.Parts. -/
namespace Go.Proofs.Tryz.Ai
open Go Go.AI Go.Proofs
set_option maxHeartbeats 4000000
set_option linter.unusedVariables false

def rpartsA : Option Ver → AV
  | some v => .tup [.int .i64 v.ma, .int .i64 v.mi, .int .i64 v.pa, .str v.pre, .bool true]
  | none => .tup [.int .i64 0, .int .i64 0, .int .i64 0, .str [], .bool false]
theorem rParts_eq (s : List UInt8) (hl : s.length ≤ 2 ^ 30) (σ) : ev 175 [.str s] σ = some (rpartsA (readB s), σ) := by
  refine EV_post rfl Tryz.func175 rfl (by simp [Tryz.ntmps175]) (by kernel_rfl) (by kernel_rfl) ?_
  by_cases h60 : 60 < s.length
  · have hr : readB s = none := by simp [readB, h60]
    simp (maxSteps := 4000000) [List.getElem?_cons_zero, List.getElem?_cons_succ, h60, hr, rpartsA, Tryz.results175]
  · cases s with
    | nil => simp (maxSteps := 4000000) [List.getElem?_cons_zero, List.getElem?_cons_succ, readB, rpartsA, Tryz.results175]
    | cons c r =>
      have h61 : ¬ (60 : Int) < (r.length : Int) + 1 := by simp at h60; omega
      have hrl : r.length < 60 := by simp at h60; omega
      by_cases hc : c = 118
      · subst hc
        have v1 : IntKind.i64.wrap ((r.length : Int) + 1) = (r.length : Int) + 1 := wrap64 (by omega)
        have hr : readB (118 :: r) = match coreOf (cutB 45 r).1 with
            | none => none
            | some (x, y, z) => if (cutB 45 r).2.2 && !idsB (cutB 45 r).2.1 then none else some ⟨x, y, z, (cutB 45 r).2.1⟩ := by
          unfold readB; rw [if_neg h60]; rfl
        simp (maxSteps := 4000000) [List.getElem?_cons_zero, List.getElem?_cons_succ, h61, v1]
        obtain ⟨⟨k, p, b⟩, hk⟩ : ∃ x, cutB 45 r = x := ⟨_, rfl⟩
        refine Post_mono (K1 := fun e st => e = .exit 0 ∧ ∃ (i : Int) (tl : List (Nat × AV)), (tl = [] ∨ tl = [(38, .bool false)]) ∧ st = ⟨[(7, .str k), (8, .str p), (9, .bool b), (10, .int .i64 i)] ++ tl, [], σ⟩) ?_ ?_
        · refine Post_loop (I := fun i : Nat => ⟨[(7, .str r), (8, .str []), (9, .bool false), (10, .int .i64 i)], [], σ⟩) (Pr := fun i => i ≤ r.length ∧ 45 ∉ r.take i) (μ := fun i => r.length - i) (a := 0) (by simp) (by simp) ?_
          rintro i ⟨hi, hn⟩
          by_cases hc : i < r.length
          · obtain ⟨x, hcx⟩ : ∃ x, r[i] = x := ⟨_, rfl⟩
            have hx : r[i]? = some x := by rw [← hcx]; exact List.getElem?_eq_getElem hc
            have w1 : IntKind.i64.wrap ((i : Int) + 1) = (i : Int) + 1 := wrap64 (by omega)
            by_cases hq : x = 45
            · have hix : ix 45 r = some i := by
                have h1 : r = r.take i ++ 45 :: r.drop (i + 1) := by rw [← hq, ← hcx, ← List.drop_eq_getElem_cons hc, List.take_append_drop]
                have h2 := ix_app (y := r.drop (i + 1)) hn
                rw [← h1] at h2
                rw [h2]; simp; omega
              have hcb : cutB 45 r = (r.take i, r.drop (i + 1), true) := by simp [cutB, hix]
              rw [hk] at hcb
              simp only [Prod.mk.injEq] at hcb
              obtain ⟨rfl, rfl, rfl⟩ := hcb
              have q1 : i + 1 ≤ r.length := by omega
              have q2 : i ≤ r.length := by omega
              subst hq
              simp (maxSteps := 4000000) [List.getElem?_cons_zero, List.getElem?_cons_succ, -getElem?_pos, hc, hx, w1, q1, q2]
            · have hn2 : 45 ∉ r.take (i + 1) := by
                rw [List.take_succ_eq_append_getElem hc, hcx]; simp [hn]; exact fun e => hq e.symm
              simp (maxSteps := 4000000) [List.getElem?_cons_zero, List.getElem?_cons_succ, -getElem?_pos, hc, hx, hq, w1]
              exact ⟨i + 1, ⟨by omega, hn2⟩, by omega, by simp⟩
          · have hi' : i = r.length := by omega
            subst hi'
            rw [List.take_length] at hn
            have hix : ix 45 r = none := ix_none.2 hn
            have hcb : cutB 45 r = (r, [], false) := by simp [cutB, hix]
            rw [hk] at hcb
            simp only [Prod.mk.injEq] at hcb
            obtain ⟨rfl, rfl, rfl⟩ := hcb
            simp (maxSteps := 4000000) [List.getElem?_cons_zero, List.getElem?_cons_succ, hc]
        · rintro e st ⟨rfl, i, tl, htl, rfl⟩
          have hcl := cutB_le 45 r
          rw [hk] at hcl hr
          simp only at hcl hr
          have hC : ∀ σ, ev 37 [.str k, .int .u8 46] σ = some (.sl (.ex 9 1) ((splitB 46 k).map .str), σ) := Cut_eq k (by omega) 46
          have hP : ∀ σ, ev 37 [.str p, .int .u8 46] σ = some (.sl (.ex 9 1) ((splitB 46 p).map .str), σ) := Cut_eq p (by omega) 46
          by_cases h3 : (splitB 46 k).length = 3
          · obtain ⟨x, y, z, hxyz⟩ : ∃ x y z, splitB 46 k = [x, y, z] := by
              match hq : splitB 46 k, h3 with
              | [x, y, z], _ => exact ⟨x, y, z, rfl⟩
            have hmem : ∀ w ∈ splitB 46 k, w.length ≤ 2 ^ 30 := fun w hw => by have := splitB_le hw; omega
            rw [hxyz] at hC hmem
            have nx := rnumber_eq x (by have := hmem x (by simp); omega)
            have ny := rnumber_eq y (by have := hmem y (by simp); omega)
            have nz := rnumber_eq z (by have := hmem z (by simp); omega)
            have hco : coreOf k = match numB x, numB y, numB z with
                | some x, some y, some z => some (x, y, z)
                | _, _, _ => none := by simp only [coreOf, hxyz]; cases numB x <;> cases numB y <;> cases numB z <;> rfl
            rw [hco] at hr
            simp only [List.map_cons, List.map_nil] at hC
            by_cases ex : numOk x = true
            · by_cases ey : numOk y = true
              · by_cases ez : numOk z = true
                · have okA : ∀ s, numOk s = true → s.all isD = true ∧ plainB s = true ∧ s.length ≤ 9 := fun s h => by
                    simp only [numOk, allB, Bool.and_eq_true, decide_eq_true_eq] at h; exact ⟨h.1.1.1, h.1.2, h.2⟩
                  have ax := rAtoi_eq x (okA x ex).1 (okA x ex).2.1 (okA x ex).2.2
                  have ay := rAtoi_eq y (okA y ey).1 (okA y ey).2.1 (okA y ey).2.2
                  have az := rAtoi_eq z (okA z ez).1 (okA z ez).2.1 (okA z ez).2.2
                  have bx : numB x = some (valB x) := by simp [numB, ex]
                  have by' : numB y = some (valB y) := by simp [numB, ey]
                  have bz : numB z = some (valB z) := by simp [numB, ez]
                  rw [bx, by', bz] at hr
                  simp only at hr
                  cases b with
                  | false =>
                    simp only [Bool.false_and, Bool.false_eq_true, if_false] at hr
                    rcases htl with rfl | rfl <;> simp (maxSteps := 4000000) [List.getElem?_cons_zero, List.getElem?_cons_succ, hC, nx, ny, nz, ex, ey, ez, ax, ay, az, hr, rpartsA, Tryz.results175]
                  | true =>
                    obtain ⟨L, hL⟩ : ∃ L, splitB 46 p = L := ⟨_, rfl⟩
                    have hm : ∀ x ∈ L, x.length ≤ 2 ^ 30 := fun x hx => by have := splitB_le (hL ▸ hx); omega
                    have hn : L.length ≤ 2 ^ 31 := by rw [← hL]; have := splitB_many 46 p; omega
                    have hAll : idsB p = L.all idB := by unfold idsB; rw [hL]
                    rw [hL] at hP
                    rcases htl with rfl | rfl
                    all_goals
                      simp (maxSteps := 4000000) [List.getElem?_cons_zero, List.getElem?_cons_succ, hC, hP, nx, ny, nz, ex, ey, ez]
                      refine Post_loop (I := fun i : Nat => ⟨[(8, .str p), (11, .sl (.ex 9 1) [.str x, .str y, .str z]), (12, .sl (.ex 9 1) (L.map .str)), (13, .int .i64 i)], [], σ⟩) (Pr := fun i => i ≤ L.length ∧ ∀ x ∈ L.take i, idB x = true) (μ := fun i => L.length - i) (a := 0) (by simp) (by simp) ?_
                      rintro i ⟨hi, ha⟩
                      by_cases hc : i < L.length
                      · obtain ⟨w, hw⟩ : ∃ w, L[i] = w := ⟨_, rfl⟩
                        have hw2 : L[i]? = some w := by rw [← hw]; exact List.getElem?_eq_getElem hc
                        have hI := ridentifier_eq w (by have := hm w (hw ▸ List.getElem_mem hc); omega)
                        have w6 : IntKind.i64.wrap ((i : Int) + 1) = (i : Int) + 1 := wrap64 (by omega)
                        by_cases hq : idB w = true
                        · rw [hq] at hI
                          simp (maxSteps := 4000000) [List.getElem?_cons_zero, List.getElem?_cons_succ, -getElem?_pos, hc, hw2, hI, w6]
                          exact ⟨i + 1, ⟨by omega, take_all hc ha (by rw [hw]; exact hq)⟩, by omega, by simp⟩
                        · have hf : idsB p = false := by rw [hAll, Bool.eq_false_iff]; intro h; exact hq (List.all_eq_true.1 h _ (hw ▸ List.getElem_mem hc))
                          have hq : idB w = false := by simpa using hq
                          rw [hq] at hI
                          rw [hf] at hr
                          simp only [Bool.not_false, Bool.and_self, if_true] at hr
                          simp (maxSteps := 4000000) [List.getElem?_cons_zero, List.getElem?_cons_succ, -getElem?_pos, hc, hw2, hI, hr, rpartsA, Tryz.results175]
                      · have hi' : i = L.length := by omega
                        subst hi'
                        rw [List.take_length] at ha
                        have ht : idsB p = true := by rw [hAll]; exact List.all_eq_true.2 ha
                        rw [ht] at hr
                        simp only [Bool.not_true, Bool.and_false, Bool.false_eq_true, if_false] at hr
                        simp (maxSteps := 4000000) [List.getElem?_cons_zero, List.getElem?_cons_succ, hc, ax, ay, az, hr, rpartsA, Tryz.results175]
                · have bz : numB z = none := by simp [numB, ez]
                  have hr2 : readB (118 :: r) = none := by rw [hr, bz]; cases numB x <;> cases numB y <;> rfl
                  rcases htl with rfl | rfl <;> simp (maxSteps := 4000000) [List.getElem?_cons_zero, List.getElem?_cons_succ, hC, nx, ny, nz, ex, ey, ez, hr2, rpartsA, Tryz.results175]
              · have bz : numB y = none := by simp [numB, ey]
                have hr2 : readB (118 :: r) = none := by rw [hr, bz]; cases numB x <;> rfl
                rcases htl with rfl | rfl <;> simp (maxSteps := 4000000) [List.getElem?_cons_zero, List.getElem?_cons_succ, hC, nx, ny, nz, ex, ey, hr2, rpartsA, Tryz.results175]
            · have bz : numB x = none := by simp [numB, ex]
              have hr2 : readB (118 :: r) = none := by rw [hr, bz]
              rcases htl with rfl | rfl <;> simp (maxSteps := 4000000) [List.getElem?_cons_zero, List.getElem?_cons_succ, hC, nx, ny, nz, ex, hr2, rpartsA, Tryz.results175]
          · rw [coreOf_no h3] at hr
            rcases htl with rfl | rfl <;> simp (maxSteps := 4000000) [List.getElem?_cons_zero, List.getElem?_cons_succ, hC, h3, hr, rpartsA, Tryz.results175]
      · have hr : readB (c :: r) = none := by unfold readB; rw [if_neg h60]; simp [hc]
        simp (maxSteps := 4000000) [List.getElem?_cons_zero, List.getElem?_cons_succ, h61, hc, hr, rpartsA, Tryz.results175]
end Go.Proofs.Tryz.Ai
end
