/- Part 5 of a proof: a Go function is evaluated on abstract values (texts Bld .. Sha2); no conditions beyond those of each theorem. -/
import Derived.Test.YtmikahmnomfacaaGreatDoorAi4
import Derived.Test.YtmikahmnomfacaaGreatDoorProg
import Derived.Lib.Strings
import Derived.Lib.Slices
import Derived.Lib.Walk
import Derived.Lib.Builder
import Derived.Lib.UnsafeStr
import Derived.Lib.MakeNoZero
import Derived.WalkKit
import Derived.Laws.Externs
import Derived.RegionTactic
import Derived.BigRegion
import Derived.Laws.CopyRow
import Derived.Lib.Bytealg
import Derived.Shelf.Strconv.Itoa3
import Derived.Lib.AppendIntMem
import Derived.Shelf.Strings.Search2
import Derived.Shelf.Strconv.AtoiAll
import Derived.Shelf.Strings.Replace
import Derived.Shelf.Strings.Repeat
import Derived.Shelf.Strings.Cut
import Derived.Shelf.Strings.Split
import Derived.Shelf.Strings.Prefix
import Derived.Shelf.Strings.OnBuilder
import Derived.Shelf.Vars
import Derived.Lib.SmallJoins
import Derived.Lib.SplitLaws
import Derived.Stop.LaidErr
import Derived.KernelRfl
set_option linter.all false
set_option linter.unusedVariables false
set_option linter.unusedSimpArgs false
set_option linter.unnecessarySimpa false
section
/- strings.Builder's methods that look at addresses or capacities: each leaves just this world behind. -/
namespace Go.Proofs.Tryz.Ai
open Go Go.AI Go.RowKit Go.Proofs

set_option maxHeartbeats 1000000 in
set_option maxRecDepth 100000 in
theorem copyCheck_used (b : Nat) (w : World) (h0 : w.cell? ⟨b, 0, none⟩ = some (.pointer (some ⟨b, 0, none⟩))) :
    Calls Tryz.prog 103 #[.pointer (some ⟨b, 0, none⟩)] w fun e w' => e = .returned (.tuple #[]) ∧ w' = w := by
  obtain ⟨j, hj, _⟩ : ∃ j, Tryz.prog.info? 100 = some j ∧ j.size = 2 := Option.map_eq_some_iff.1 (by kernel_rfl)
  go_enter Tryz.func103, Tryz.ntmps103
  go_wp2
  rw [Lib.run_neq_ptr_same w _ (te := 100) (by kernel_rfl) hj]
  go_wp2
  go_end0
  exact ⟨rfl, rfl⟩

set_option maxHeartbeats 1000000 in
set_option maxRecDepth 100000 in
theorem copyCheck_fresh (b : Nat) (w : World) (h0 : w.cell? ⟨b, 0, none⟩ = some (.pointer none)) (hsh : w.shape? b = some (100, 2)) (hfz : w.frozen? ⟨b, 0, none⟩ = false) :
    Calls Tryz.prog 103 #[.pointer (some ⟨b, 0, none⟩)] w fun e w' => e = .returned (.tuple #[]) ∧ w' = w.setCell ⟨b, 0, none⟩ (.pointer (some ⟨b, 0, none⟩)) := by
  obtain ⟨j, hj, hjs⟩ : ∃ j, Tryz.prog.info? 100 = some j ∧ j.size = 2 := Option.map_eq_some_iff.1 (by kernel_rfl)
  go_enter Tryz.func103, Tryz.ntmps103
  go_wp2
  rw [Lib.run_to_unsafe (t := 100) w ⟨b, 0, none⟩ (by kernel_rfl) (by kernel_rfl) hj (by rw [hjs]; decide) hsh (Nat.zero_lt_succ 1)]
  simp only [Result.andThen]
  rw [Oper.upon_value]
  go_wp2
  rw [run_callFunc_extern Tryz.func123 (by kernel_rfl) (by kernel_rfl) (by kernel_rfl) (e := Extern.AbiNoEscape.same) (by kernel_rfl)]
  rw [Lib.run_noEscape]
  simp only [Result.andThen]
  rw [Oper.upon_value]
  go_wp2
  rw [Lib.run_from_unsafe (u := 100) w ⟨b, 0, none⟩ (by kernel_rfl) (by kernel_rfl) hj hsh (by kernel_rfl)]
  simp only [Result.andThen]
  rw [Oper.upon_value]
  go_wp2
  go_end0
  exact ⟨rfl, rfl⟩

def SB : TypeId := 100
def U8 : TypeId := 5

set_option maxHeartbeats 2000000 in
set_option maxRecDepth 1000000 in
theorem string_some (b g cap n : Nat) (p : Value) (cur : Array Value) (l : List UInt8) (w : World) (h0 : l ≠ []) (hn : l.length = n) (hbk : Blk w b #[p, .slice (some ⟨g, 0, none⟩) n cap] SB)
    (hg : Blk w g cur U8) (hnc : n ≤ cap) (hcm : cap ≤ maxLen) (hcs : cur.size = cap) (hx : ∀ (j : Nat) (x : UInt8), l[j]? = some x → cur[j]? = some (.int .u8 x.toNat)) :
    Calls Tryz.prog 69 #[.pointer (some ⟨b, 0, none⟩)] w fun e w' => e = .returned (.string ⟨l.toArray⟩) ∧ w' = w.drew.freeze ⟨g, 0, none⟩ n := by
  obtain ⟨fbk, hbk, okbk⟩ := hbk
  obtain ⟨fg, hg, okg⟩ := hg
  subst hn
  have hl0 : l.length ≠ 0 := by simpa using h0
  have c1 : w.drew.cell? ⟨b, 1, none⟩ = some (.slice (some ⟨g, 0, none⟩) l.length cap) := by
    have : w.drew.heap[b]? = some (.cells #[p, .slice (some ⟨g, 0, none⟩) l.length cap] SB fbk) := hbk
    rw [Lib.cell_of_heap this]; rfl
  have hSD : (Builtin.unsafeSliceData_ #[35] 129 #[.slice (some ⟨g, 0, none⟩) l.length cap]).run Tryz.prog w.drew = .ok (.pointer (some ⟨g, 0, none⟩)) w.drew :=
    Lib.run_unsafeSliceData_row _ _ _ _ _ _ (by omega)
  have hUS : (Builtin.unsafeString_ #[129, 3] 9 #[.pointer (some ⟨g, 0, none⟩), .int .i64 l.length]).run Tryz.prog w.drew = .ok (.string ⟨l.toArray⟩) (w.drew.freeze ⟨g, 0, none⟩ l.length) := by
    refine Lib.run_unsafeString_row w.drew 129 3 9 5 (by kernel_rfl) (by kernel_rfl) g cur.size (by have hg' : w.drew.heap[g]? = some (.cells cur U8 fg) := hg; simp [World.shape?, hg', U8]) l h0 (by omega) (by unfold maxLen at hcm; omega) ?_
    intro j x hj
    have := hx j x hj
    have hg' : w.drew.heap[g]? = some (.cells cur U8 fg) := hg
    rw [show (⟨g, 0, none⟩ : Addr).add j = ⟨g, j, none⟩ from by unfold Addr.add; split <;> simp_all, Lib.cell_of_heap hg']; exact this
  go_enter Tryz.func69, Tryz.ntmps69
  go_wp2
  go_region
  all_goals (go_wp2; go_ret; exact ⟨rfl, rfl⟩)

set_option maxHeartbeats 2000000 in
set_option maxRecDepth 1000000 in
theorem string_nil (b : Nat) (p : Value) (w : World) (hbk : Blk w b #[p, .slice none 0 0] SB) :
    Calls Tryz.prog 69 #[.pointer (some ⟨b, 0, none⟩)] w fun e w' => e = .returned (.string ⟨#[]⟩) ∧ w' = w.drew := by
  obtain ⟨fbk, hbk, okbk⟩ := hbk
  have hUS : ∀ (W : World) (q : Option Addr), (Builtin.unsafeString_ #[129, 3] 9 #[.pointer q, .int .i64 0]).run Tryz.prog W = .ok (.string .empty) W := fun W q => Lib.run_unsafeString_none W _ _ _ q
  have c1 : w.drew.cell? ⟨b, 1, none⟩ = some (.slice none 0 0) := by
    have : w.drew.heap[b]? = some (.cells #[p, .slice none 0 0] SB fbk) := hbk
    rw [Lib.cell_of_heap this]; rfl
  have hSD : ∀ W : World, (Builtin.unsafeSliceData_ #[35] 129 #[.slice none 0 0]).run Tryz.prog W = .ok (.pointer none) W := fun W => rfl
  go_enter Tryz.func69, Tryz.ntmps69
  go_wp2
  go_region
  all_goals (go_wp2; go_ret; exact ⟨rfl, rfl⟩)

set_option maxHeartbeats 2000000 in
set_option maxRecDepth 1000000 in
theorem string_room (b g cap : Nat) (p : Value) (w : World) (hc0 : cap ≠ 0) (hbk : Blk w b #[p, .slice (some ⟨g, 0, none⟩) 0 cap] SB) :
    Calls Tryz.prog 69 #[.pointer (some ⟨b, 0, none⟩)] w fun e w' => e = .returned (.string ⟨#[]⟩) ∧ w' = w.drew := by
  obtain ⟨fbk, hbk, okbk⟩ := hbk
  have hUS : ∀ (W : World) (q : Option Addr), (Builtin.unsafeString_ #[129, 3] 9 #[.pointer q, .int .i64 0]).run Tryz.prog W = .ok (.string .empty) W := fun W q => Lib.run_unsafeString_none W _ _ _ q
  have c1 : w.drew.cell? ⟨b, 1, none⟩ = some (.slice (some ⟨g, 0, none⟩) 0 cap) := by
    have : w.drew.heap[b]? = some (.cells #[p, .slice (some ⟨g, 0, none⟩) 0 cap] SB fbk) := hbk
    rw [Lib.cell_of_heap this]; rfl
  have hSD : (Builtin.unsafeSliceData_ #[35] 129 #[.slice (some ⟨g, 0, none⟩) 0 cap]).run Tryz.prog w.drew = .ok (.pointer (some ⟨g, 0, none⟩)) w.drew :=
    Lib.run_unsafeSliceData_row _ _ _ _ _ _ hc0
  clear hc0
  go_enter Tryz.func69, Tryz.ntmps69
  go_wp2
  go_region
  all_goals (go_wp2; go_ret; exact ⟨rfl, rfl⟩)

set_option maxHeartbeats 2000000 in
set_option maxRecDepth 1000000 in
theorem string_noroom (b g : Nat) (p : Value) (cur : Array Value) (w : World) (hbk : Blk w b #[p, .slice (some ⟨g, 0, none⟩) 0 0] SB) (hg : Blk w g cur U8) :
    Calls Tryz.prog 69 #[.pointer (some ⟨b, 0, none⟩)] w fun e w' => e = .returned (.string ⟨#[]⟩) ∧ w' = (w.alloc (.view ⟨g, 0, none⟩ U8)).drew := by
  obtain ⟨fbk, hbk, okbk⟩ := hbk
  obtain ⟨fg, hg, okg⟩ := hg
  have hUS : ∀ (W : World) (q : Option Addr), (Builtin.unsafeString_ #[129, 3] 9 #[.pointer q, .int .i64 0]).run Tryz.prog W = .ok (.string .empty) W := fun W q => Lib.run_unsafeString_none W _ _ _ q
  have hlt : b < w.heap.size := by
    rcases Nat.lt_or_ge b w.heap.size with h' | h'
    · exact h'
    · simp [Array.getElem?_eq_none h'] at hbk
  have c1 : w.drew.cell? ⟨b, 1, none⟩ = some (.slice (some ⟨g, 0, none⟩) 0 0) := by
    have : w.drew.heap[b]? = some (.cells #[p, .slice (some ⟨g, 0, none⟩) 0 0] SB fbk) := hbk
    rw [Lib.cell_of_heap this]; rfl
  have hSD : (Builtin.unsafeSliceData_ #[35] 129 #[.slice (some ⟨g, 0, none⟩) 0 0]).run Tryz.prog w.drew = .ok (.pointer (some ⟨w.drew.heap.size, 0, none⟩)) (w.drew.alloc (.view ⟨g, 0, none⟩ 5)) :=
    Lib.run_unsafeSliceData_zero w.drew _ _ 5 (by kernel_rfl) ⟨g, 0, none⟩ 0 (5, cur.size) (by have hg' : w.drew.heap[g]? = some (.cells cur U8 fg) := hg; simp [World.shape?, hg', U8])
  have c2 : (w.drew.alloc (.view ⟨g, 0, none⟩ 5)).cell? ⟨b, 1, none⟩ = some (.slice (some ⟨g, 0, none⟩) 0 0) := by
    have : (w.drew.alloc (.view ⟨g, 0, none⟩ 5)).heap[b]? = _ := (Lib.alloc_old w.drew _ b hlt).trans hbk
    rw [Lib.cell_of_heap this]; rfl
  have c3 : (w.alloc (.view ⟨g, 0, none⟩ 5)).drew.cell? ⟨b, 1, none⟩ = some (.slice (some ⟨g, 0, none⟩) 0 0) := c2
  have c0 : w.cell? ⟨b, 1, none⟩ = some (.slice (some ⟨g, 0, none⟩) 0 0) := c1
  clear hlt
  go_enter Tryz.func69, Tryz.ntmps69
  go_wp2
  go_region
  all_goals (go_wp2; go_ret; exact ⟨rfl, rfl⟩)

set_option maxHeartbeats 2000000 in
set_option maxRecDepth 1000000 in
theorem grow_fresh (b n : Nat) (w : World) (hbk : Blk w b #[.pointer (some ⟨b, 0, none⟩), .slice none 0 0] SB) (hn : n ≤ 281474976710656) :
    Calls Tryz.prog 122 #[.pointer (some ⟨b, 0, none⟩), .int .i64 n] w fun e w' => e = .returned (.tuple #[]) ∧ ∃ cs : Array Value, (n ≤ maxLen → cs.size ≤ maxLen) ∧ w' = ((w.alloc (.cells cs U8)).setCell ⟨b, 1, none⟩ (.slice (some ⟨w.heap.size, 0, none⟩) 0 cs.size)).drew.drew.drew := by
  obtain ⟨fbk, hbk, okbk⟩ := hbk
  obtain ⟨cs, hrun, hle, hmax⟩ := Lib.run_makeNoZero (P := Tryz.prog) w.drew #[3] 35 5 (by kernel_rfl) n hn
  have hw : IntKind.i64.wrap (IntKind.i64.wrap 0 + (n : Int)) = n := by
    rw [IntKind.wrap_i64, IntKind.wrap_i64]
    omega
  have hcall : (callFunc 145 #[.int .i64 (IntKind.i64.wrap (IntKind.i64.wrap 0 + (n : Int)))]).run Tryz.prog w.drew = .ok (.value (.slice (some ⟨w.drew.heap.size, 0, none⟩) n cs.size)) (w.drew.drew.drew.alloc (.cells cs U8)) := by
    rw [hw, run_callFunc_extern Tryz.func145 (by kernel_rfl) (by kernel_rfl) (by kernel_rfl) (e := Extern.BytealgMakeNoZero.makeNoZero #[3] #[35]) (by kernel_rfl), hrun]
    rfl
  have c1 : w.drew.cell? ⟨b, 1, none⟩ = some (.slice none 0 0) := by
    have : w.drew.heap[b]? = _ := hbk
    rw [Lib.cell_of_heap this]; rfl
  have hlt : b < w.heap.size := by
    rcases Nat.lt_or_ge b w.heap.size with h' | h'
    · exact h'
    · simp [Array.getElem?_eq_none h'] at hbk
  have c2 : (w.alloc (.cells cs U8)).cell? ⟨b, 1, none⟩ = some (.slice none 0 0) := by
    have : (w.alloc (.cells cs U8)).heap[b]? = _ := (Lib.alloc_old w _ b hlt).trans hbk
    rw [Lib.cell_of_heap this]; rfl
  have f2 : (w.alloc (.cells cs U8)).frozen? ⟨b, 1, none⟩ = false := (show Blk _ b _ SB from ⟨fbk, (Lib.alloc_old w _ b hlt).trans hbk, okbk⟩).frozen (by simp)
  have hcopy : ∀ W : World, (Builtin.copy_ #[35, 35] 3 #[.slice (some ⟨w.heap.size, 0, none⟩) 0 cs.size, .slice none 0 0]).run Tryz.prog W = .ok (goInt 0) W :=
    fun W => run_copy_none W 35 35 3 5 _ _ 0 cs.size 0 0 (by kernel_rfl) (by kernel_rfl) rfl
  have hfin : ∃ cs' : Array Value, (n ≤ maxLen → cs'.size ≤ maxLen) ∧ ((w.alloc (.cells cs U8)).setCell ⟨b, 1, none⟩ (.slice (some ⟨w.heap.size, 0, none⟩) 0 cs.size)).drew.drew.drew = ((w.alloc (.cells cs' U8)).setCell ⟨b, 1, none⟩ (.slice (some ⟨w.heap.size, 0, none⟩) 0 cs'.size)).drew.drew.drew := ⟨cs, hmax, rfl⟩
  clear hw hmax hlt
  unfold U8 at *
  go_enter Tryz.func122, Tryz.ntmps122
  go_wp2
  go_region
  all_goals (go_wp2; go_end0; exact ⟨rfl, hfin⟩)
set_option maxHeartbeats 2000000 in
set_option maxRecDepth 1000000 in
theorem Grow_fresh (b n : Nat) (w : World) (hbk : Blk w b #[.pointer none, .slice none 0 0] SB) (hn : n ≤ 281474976710656) :
    Calls Tryz.prog 99 #[.pointer (some ⟨b, 0, none⟩), .int .i64 n] w fun e w' => e = .returned (.tuple #[]) ∧
      ((∃ cs : Array Value, (n ≤ maxLen → cs.size ≤ maxLen) ∧ w' = (((w.setCell ⟨b, 0, none⟩ (.pointer (some ⟨b, 0, none⟩))).alloc (.cells cs U8)).setCell ⟨b, 1, none⟩ (.slice (some ⟨w.heap.size, 0, none⟩) 0 cs.size)).drew.drew.drew.drew) ∨
       w' = (w.setCell ⟨b, 0, none⟩ (.pointer (some ⟨b, 0, none⟩))).drew) := by
  obtain ⟨fbk, hbk, okbk⟩ := hbk
  have hbk1 : (w.setCell ⟨b, 0, none⟩ (.pointer (some ⟨b, 0, none⟩))).heap[b]? = some (.cells #[.pointer (some ⟨b, 0, none⟩), .slice none 0 0] SB fbk) := by
    simp [World.setCell, Array.getElem?_modify, hbk]
  have c1 : (w.setCell ⟨b, 0, none⟩ (.pointer (some ⟨b, 0, none⟩))).cell? ⟨b, 1, none⟩ = some (.slice none 0 0) := by rw [Lib.cell_of_heap hbk1]; rfl
  have c1' : (w.setCell ⟨b, 0, none⟩ (.pointer (some ⟨b, 0, none⟩))).drew.cell? ⟨b, 1, none⟩ = some (.slice none 0 0) := c1
  go_enter Tryz.func99, Tryz.ntmps99
  go_wp2_with (go_at_call 103; refine (copyCheck_fresh b w (by rw [Lib.cell_of_heap hbk]; rfl) (by simp [World.shape?, hbk, SB]) ((show Blk w b _ SB from ⟨fbk, hbk, okbk⟩).frozen (by simp))).mono ?_; rintro e w' ⟨rfl, rfl⟩)
  go_region
  all_goals go_wp2_with (go_at_call 122; refine (grow_fresh b n (w.setCell ⟨b, 0, none⟩ (.pointer (some ⟨b, 0, none⟩))).drew ⟨fbk, hbk1, okbk⟩ hn).mono ?_; rintro e w' ⟨rfl, cs, h1, rfl⟩)
  all_goals first
    | (go_end0; exact ⟨rfl, .inl ⟨cs, h1, by first | rfl | simp [World.setCell_drew]⟩⟩)
    | (go_end0; exact ⟨rfl, .inr rfl⟩)
end Go.Proofs.Tryz.Ai
end
section
/- The table's entries for strings.Builder. -/
namespace Go.Proofs.Tryz.Ai
open Go Go.AI Go.RowKit Go.Proofs
set_option linter.unusedVariables false

def copyCheckT : List AV → List (List AV) → Option (AV × List (List AV))
  | [.gp b 0 (some (t, 2))], s => if t = SB then (match s[b]? with
      | some [.nilp, u] => some (.tup [], s.set b [.gp b 0 (some (SB, 2)), u])
      | some [.gp b' 0 _, u] => if b' = b then some (.tup [], s) else none
      | _ => none) else none
  | _, _ => none

theorem one_arg {B : Nat} {T0 : Nat → Prop} {μ0 : Gh} {w0 : World} {N : Nat} {μ : Gh} {lx : Nat → Option Nat} {w : World} {vs : Array Value} {x : AV} {s : List (List AV)} (hsz : vs.size = 1) : ∃ v, vs = #[v] ∧ vs.getD 0 undef = v := by
  obtain ⟨l⟩ := vs
  match l, hsz with
  | [v], _ => exact ⟨v, rfl, rfl⟩

theorem copyCheck_ok {B : Nat} {W0 : World} {xs : List AV} {s : List (List AV)} {r : AV} {s' : List (List AV)} (e : copyCheckT xs s = some (r, s')) : ACalls Tryz.prog B W0 103 xs s r s' := by
  unfold copyCheckT at e
  split at e
  · rename_i b tt
    split at e
    · rename_i ht
      subst ht
      intro T μ w vs hsz hW hs
      split at e
      · rename_i u hb
        simp only [Option.some.injEq, Prod.mk.injEq] at e
        obtain ⟨rfl, rfl⟩ := e
        obtain ⟨blk, cur, ty, h1, h2, h3, h4, h5, h6, h7⟩ := hs.gp_open (i := 0) (b := b) (off := 0) (sh := some (SB, 2)) (by simp [params, look]) hb (by simp)
        have h8 := h7 _ rfl
        simp only [Prod.mk.injEq] at h8
        obtain ⟨rfl, h8⟩ := h8
        obtain ⟨v, rfl, hv⟩ := one_arg (B := B) (T0 := T) (μ0 := μ) (w0 := w) (N := 1) (μ := μ) (lx := fun _ => none) (w := w) (x := .nilp) (s := []) hsz
        have hv0 : v = .pointer (some ⟨blk, 0, none⟩) := h1
        subst hv0
        have hc0 : cur[0]? = some (.pointer none) := by
          have := (h6 0 .nilp rfl).2.1
          have hq : cur[0]? = some (cur.getD 0 undef) := by simp [Array.getD_eq_getD_getElem?, h8]
          rw [hq]; congr 1
          generalize cur.getD 0 undef = z at this
          cases this; rfl
        refine (copyCheck_fresh blk w (by rw [h3.cell]; exact hc0) (by simp [h3.shape, h8, SB]) (h3.frozen (by omega))).mono ?_
        rintro e w' ⟨rfl, rfl⟩
        have h9 := hs.setGlobCell (j := 0) (c := .gp b 0 (some (SB, 2))) (v := .pointer (some ⟨blk, 0, none⟩)) hb h2 h3 (by simp) (.mk' ⟨.gp _ _ _ _ h2 (fun q e => by injection e with e; subst e; simp [h3.shape, h8]), trivial⟩ fun j => by cases j <;> rfl) rfl
        exact ⟨_, _, rfl, h9.unit⟩
      · rename_i b' sh u hb
        split at e
        · rename_i hbb
          obtain rfl : b = b' := hbb.symm
          simp only [Option.some.injEq, Prod.mk.injEq] at e
          obtain ⟨rfl, rfl⟩ := e
          obtain ⟨blk, cur, ty, h1, h2, h3, h4, h5, h6, h7⟩ := hs.gp_open (i := 0) (b := b) (off := 0) (sh := some (SB, 2)) (by simp [params, look]) hb (by simp)
          have h8 := h7 _ rfl
          simp only [Prod.mk.injEq] at h8
          obtain ⟨rfl, h8⟩ := h8
          obtain ⟨v, rfl, hv⟩ := one_arg (B := B) (T0 := T) (μ0 := μ) (w0 := w) (N := 1) (μ := μ) (lx := fun _ => none) (w := w) (x := .nilp) (s := []) hsz
          have hv0 : v = .pointer (some ⟨blk, 0, none⟩) := h1
          subst hv0
          have hc0 : cur[0]? = some (.pointer (some ⟨blk, 0, none⟩)) := by
            have := (h6 0 _ rfl).2.1
            have hq : cur[0]? = some (cur.getD 0 undef) := by simp [Array.getD_eq_getD_getElem?, h8]
            rw [hq]; congr 1
            generalize cur.getD 0 undef = z at this
            cases this with
            | gp _ _ blk' _ hq' _ => rw [h2] at hq'; injection hq' with hq'; rw [hq']
          refine (copyCheck_used blk w (by rw [h3.cell]; exact hc0)).mono ?_
          rintro e w' ⟨rfl, rfl⟩
          exact ⟨_, _, rfl, hs.unit⟩
        · cases e
      · cases e
    · cases e
  · cases e

theorem bytesOf_u8 (l : List UInt8) : bytesOf (l.map .u8) = some l := by
  induction l with
  | nil => rfl
  | cons b r ih => simp [bytesOf, AV.u8, ih, bnd]

noncomputable def stringT : List AV → List (List AV) → Option (AV × List (List AV))
  | [.gp b 0 (some (t, 2))], s => if t = SB then (match s[b]? with
      | some [u, .sl (.ex ty 1) xs] => if ty = U8 then bnd (bytesOf xs) fun l => need (xs = l.map .u8) (some (.str l, s.set b [u, .sl .sh xs])) else none
      | some [u, .sl .nil []] => some (.str [], s)
      | _ => none) else none
  | _, _ => none

theorem string_ok {B : Nat} {W0 : World} {xs : List AV} {s : List (List AV)} {r : AV} {s' : List (List AV)} (e : stringT xs s = some (r, s')) : ACalls Tryz.prog B W0 69 xs s r s' := by
  unfold stringT at e
  split at e
  · rename_i b tt
    split at e
    · rename_i ht
      subst ht
      intro T μ w vs hsz hW hs
      split at e
      · rename_i u ty2 xs hb
        split at e
        rotate_left
        · cases e
        rename_i hty
        subst hty
        obtain ⟨l, hl, e⟩ := bnd_eq e
        obtain ⟨hxs, e⟩ := need_eq e
        simp only [Option.some.injEq, Prod.mk.injEq] at e
        obtain ⟨rfl, rfl⟩ := e
        obtain ⟨blk, cur, ty, h1, h2, h3, h4, h5, h6, h7⟩ := hs.gp_open (i := 0) (b := b) (off := 0) (sh := some (SB, 2)) (by simp [params, look]) hb (by simp)
        have h8 := h7 _ rfl
        simp only [Prod.mk.injEq] at h8
        obtain ⟨rfl, h8⟩ := h8
        obtain ⟨v, rfl, hv⟩ := one_arg (B := B) (T0 := T) (μ0 := μ) (w0 := w) (N := 1) (μ := μ) (lx := fun _ => none) (w := w) (x := .nilp) (s := []) hsz
        have hv0 : v = .pointer (some ⟨blk, 0, none⟩) := h1
        subst hv0
        obtain ⟨p, q, rfl⟩ : ∃ p q, cur = #[p, q] := by
          obtain ⟨l⟩ := cur
          match l, h8 with
          | [p, q], _ => exact ⟨p, q, rfl⟩
        have k1 := h6 1 _ rfl
        have kr : Rep B μ w q (.sl (.ex U8 1) xs) := k1.2.1
        have kt : Tk1 B μ w q (.sl (.ex U8 1) xs) := k1.2.2
        have hq1 : hs = hs := rfl
        have hqc := hs.quietCell hb (j := 1) rfl
        have hown : own ⟨#[.pointer (some ⟨blk, 0, none⟩)], []⟩ (fun _ => none) μ w ⟨params 0 [.gp b 0 (some (SB, 2))], [], s⟩ (.gc b 1) = exBlk q (.sl (.ex U8 1) xs) := by
          simp [own, ownB, hb, h2, h3.cell]
        rcases kt with hn | ⟨g, cap, cur, rfl, hB, hg, c1, c2, c3, c4, c5, c6⟩
        · subst hn
          have hx : xs = [] := by cases kr <;> rfl
          subst hx
          injection hl with hl; subst hl
          refine (string_nil blk p w h3).mono ?_
          rintro e w' ⟨rfl, rfl⟩
          exact ⟨_, _, rfl, hqc.drew.1.text []⟩
        · have hfree : ∀ l, own ⟨#[.pointer (some ⟨blk, 0, none⟩)], []⟩ (fun _ => none) μ w ⟨params 0 [.gp b 0 (some (SB, 2))], [], s.set b [u, .sl .sh xs]⟩ l ≠ some g := by
            intro l e
            have hle : Le ⟨params 0 [.gp b 0 (some (SB, 2))], [], s.set b [u, .sl .sh xs]⟩ ⟨params 0 [.gp b 0 (some (SB, 2))], [], s⟩ := by
              have hb' : b < s.length := (List.getElem?_eq_some_iff.1 hb).1
              refine ⟨fun i v e => ⟨v, e, .inl rfl⟩, fun d cs e => ⟨cs, e, CLe.refl _⟩, fun b' cs' e => ?_, by simp, id⟩
              simp only [List.getElem?_set] at e
              by_cases q : b = b'
              · subst q
                simp [hb'] at e; subst e
                refine ⟨_, hb, rfl, fun j' c' e => ?_⟩
                match j', e with
                | 0, e => exact ⟨_, rfl, .inl (by simpa using e.symm)⟩
                | 1, e => exact ⟨_, rfl, .inr (by simpa [dem1] using e.symm)⟩
              · rw [if_neg q] at e; exact ⟨cs', e, CLe.refl _⟩
            have e1 := own_le hle e
            have := hs.inj l (.gc b 1) g e1 (by rw [hown]; rfl)
            subst this
            have hb' : b < s.length := (List.getElem?_eq_some_iff.1 hb).1
            simp [own, ownB, List.getElem?_set, hb', h2, h3.cell, exBlk] at e
          have hr := hs.rng (.gc b 1) g (by rw [hown]; rfl)
          have hqc' : Sim B T μ w 1 μ (fun _ => none) ⟨#[.pointer (some ⟨blk, 0, none⟩)], []⟩ w ⟨params 0 [.gp b 0 (some (SB, 2))], [], s.set b [u, .sl .sh xs]⟩ := hqc
          by_cases hx : xs = []
          · subst hx
            injection hl with hl; subst hl
            by_cases hc0 : cap = 0
            · subst hc0
              refine (string_noroom blk g p cur w h3 hg).mono ?_
              rintro e w' ⟨rfl, rfl⟩
              exact ⟨_, _, rfl, (hqc'.alloc _).drew.1.text []⟩
            · refine (string_room blk g cap p w hc0 h3).mono ?_
              rintro e w' ⟨rfl, rfl⟩
              exact ⟨_, _, rfl, hqc'.drew.1.text []⟩
          · have hl0 : l ≠ [] := fun e => by subst e; exact hx hxs
            have hll : l.length = xs.length := by rw [hxs]; simp
            obtain ⟨ad, cap', he, _, _, _, k4⟩ := sl_inv kr
            obtain ⟨b', off', sz', f, had, hsz', hall', hcell, hrep⟩ := k4 hx
            injection he with he1 he2 he3
            rw [had] at he1
            injection he1 with he1
            injection he1 with e1 e2
            subst e1; subst e2
            have hsz1 : sz' = 1 := by
              obtain ⟨x0, hx0⟩ := List.exists_mem_of_ne_nil xs hx
              rw [← (hall' x0 hx0).1]; exact (c5 x0 hx0).1
            subst hsz1
            refine (string_some blk g cap xs.length p cur l w hl0 hll h3 hg c1 c2 (by omega) (fun j x hj => ?_)).mono ?_
            · have hjl : j < l.length := (List.getElem?_eq_some_iff.1 hj).1
              have hxj : xs[j]? = some (.u8 x) := by rw [hxs]; simp [hj]
              have h10 := (hcell j (by omega)).1
              have h11 := hrep j 0 (.u8 x) (by rw [hxj]; rfl)
              rw [Nat.zero_add, cell_box hg] at h10
              rw [h10]; congr 1
              simp only [Nat.mul_one, Nat.add_zero] at h11
              generalize f j = z at h11
              cases h11; rfl
            · rintro e w' ⟨rfl, rfl⟩
              have h12 := hqc'.drew
              exact ⟨_, _, rfl, (h12.1.freeze (g := g) (n := xs.length) (fun l e => hfree l (by rw [← h12.2]; exact e)) hB hr.2.2).text l⟩
      · rename_i u hb
        simp only [Option.some.injEq, Prod.mk.injEq] at e
        obtain ⟨rfl, rfl⟩ := e
        obtain ⟨blk, cur, ty, h1, h2, h3, h4, h5, h6, h7⟩ := hs.gp_open (i := 0) (b := b) (off := 0) (sh := some (SB, 2)) (by simp [params, look]) hb (by simp)
        have h8 := h7 _ rfl
        simp only [Prod.mk.injEq] at h8
        obtain ⟨rfl, h8⟩ := h8
        obtain ⟨v, rfl, hv⟩ := one_arg (B := B) (T0 := T) (μ0 := μ) (w0 := w) (N := 1) (μ := μ) (lx := fun _ => none) (w := w) (x := .nilp) (s := []) hsz
        have hv0 : v = .pointer (some ⟨blk, 0, none⟩) := h1
        subst hv0
        obtain ⟨p, q, rfl⟩ : ∃ p q, cur = #[p, q] := by
          obtain ⟨l⟩ := cur
          match l, h8 with
          | [p, q], _ => exact ⟨p, q, rfl⟩
        have kr : Rep B μ w q (.sl .nil []) := (h6 1 _ rfl).2.1
        obtain ⟨rfl, _⟩ := kr.nil_val
        refine (string_nil blk p w h3).mono ?_
        rintro e w' ⟨rfl, rfl⟩
        exact ⟨_, _, rfl, hs.drew.1.text []⟩
      · cases e
    · cases e
  · cases e

def growT : List AV → List (List AV) → Option (AV × List (List AV))
  | [.gp b 0 (some (t, 2)), .int .i64 n], s => if t = SB ∧ 0 ≤ n ∧ n ≤ 140737488351232 then (match s[b]? with
      | some [.nilp, .sl .nil []] => some (.tup [], s.set b [.gp b 0 (some (SB, 2)), .sl (.ex U8 1) []])
      | _ => none) else none
  | _, _ => none

theorem grow_ok {B : Nat} {W0 : World} {xs : List AV} {s : List (List AV)} {r : AV} {s' : List (List AV)} (e : growT xs s = some (r, s')) : ACalls Tryz.prog B W0 99 xs s r s' := by
  unfold growT at e
  split at e
  · rename_i b tt n
    split at e
    · rename_i ht
      obtain ⟨rfl, hn0, hn1⟩ := ht
      obtain ⟨m, rfl⟩ := Int.eq_ofNat_of_zero_le hn0
      intro T μ w vs hsz hW hs
      split at e
      · rename_i hb
        simp only [Option.some.injEq, Prod.mk.injEq] at e
        obtain ⟨rfl, rfl⟩ := e
        obtain ⟨blk, cur, ty, h1, h2, h3, h4, h5, h6, h7⟩ := hs.gp_open (i := 0) (b := b) (off := 0) (sh := some (SB, 2)) (by simp [params, look]) hb (by simp)
        have h8 := h7 _ rfl
        simp only [Prod.mk.injEq] at h8
        obtain ⟨rfl, h8⟩ := h8
        have hq1 : vs.getD 1 undef = .int .i64 m := by
          have := (hs.tmp 1 (.int .i64 m) (by simp [params, look])).1
          generalize hz : vs.getD 1 undef = z at this
          try simp only [hz] at this
          cases this; rfl
        obtain ⟨v0, v1, rfl⟩ : ∃ v0 v1, vs = #[v0, v1] := by
          obtain ⟨l⟩ := vs
          match l, hsz with
          | [p, q], _ => exact ⟨p, q, rfl⟩
        have hv0 : v0 = .pointer (some ⟨blk, 0, none⟩) := h1
        have hv1 : v1 = .int .i64 m := hq1
        subst hv0; subst hv1
        obtain ⟨p, q, rfl⟩ : ∃ p q, cur = #[p, q] := by
          obtain ⟨l⟩ := cur
          match l, h8 with
          | [p, q], _ => exact ⟨p, q, rfl⟩
        have kp : Rep B μ w p .nilp := (h6 0 _ rfl).2.1
        have kq : Rep B μ w q (.sl .nil []) := (h6 1 _ rfl).2.1
        obtain ⟨rfl, _⟩ := kq.nil_val
        obtain rfl : p = .pointer none := by cases kp; rfl
        have h9 := hs.setGlobCell (j := 0) (c := .gp b 0 (some (SB, 2))) (v := .pointer (some ⟨blk, 0, none⟩)) hb h2 h3 (by simp) (.mk' ⟨.gp _ _ _ _ h2 (fun q e => by injection e with e; subst e; simp [h3.shape]), trivial⟩ fun j => by cases j <;> rfl) rfl
        have hbl : b < s.length := (List.getElem?_eq_some_iff.1 hb).1
        have hs1 : (s.set b ([AV.nilp, .sl .nil []].set 0 (.gp b 0 (some (SB, 2)))))[b]? = some [.gp b 0 (some (SB, 2)), .sl .nil []] := by simp [hbl]
        have hh1 : Blk (w.setCell ⟨blk, 0, none⟩ (.pointer (some ⟨blk, 0, none⟩))) blk #[.pointer (some ⟨blk, 0, none⟩), .slice none 0 0] SB := by
          obtain ⟨fz, h3, ok3⟩ := h3; exact ⟨fz, by simp [World.setCell, Array.getElem?_modify, h3], ok3⟩
        refine (Grow_fresh blk m w h3 (by omega)).mono ?_
        rintro e w' ⟨rfl, ⟨cs, hcs, rfl⟩ | rfl⟩
        · obtain ⟨f1, f2⟩ := h9.fresh (vs := cs) (ty := U8) (els := []) (sz := 1) (cap := cs.size) (by omega) (by simp) (hcs (by unfold maxLen; omega)) (by simp) (fun x hx => by cases hx) (fun i j c hc => by simp at hc)
          have hh2 : Blk ((w.setCell ⟨blk, 0, none⟩ (.pointer (some ⟨blk, 0, none⟩))).alloc (.cells cs U8)) blk #[.pointer (some ⟨blk, 0, none⟩), .slice none 0 0] SB := hh1.of <|
            (Below.heap_alloc _ _ _ hh1.lt)
          have f3 := f1.setGlobCell (j := 1) hs1 h2 hh2 (by simp) f2 rfl
          have hset : (s.set b ([AV.nilp, .sl .nil []].set 0 (.gp b 0 (some (SB, 2))))).set b ([.gp b 0 (some (SB, 2)), AV.sl .nil []].set 1 (.sl (.ex U8 1) [])) = s.set b [.gp b 0 (some (SB, 2)), .sl (.ex U8 1) []] := by simp
          have f4 := f3.drew.1.drew.1.drew.1.drew.1
          simp only [hset] at f4
          have hsize : (w.setCell ⟨blk, 0, none⟩ (.pointer (some ⟨blk, 0, none⟩))).heap.size = w.heap.size := by simp [World.setCell]
          simp only [hsize] at f4
          exact ⟨_, _, rfl, f4.unit⟩
        · have f3 := h9.setGlobCell (j := 1) (v := .slice none 0 0) (c := .sl (.ex U8 1) []) hs1 h2 hh1 (by simp) (.mk' ⟨.slnil _, .inl rfl⟩ fun j => by cases j <;> rfl) rfl
          have hset : (s.set b ([AV.nilp, .sl .nil []].set 0 (.gp b 0 (some (SB, 2))))).set b ([.gp b 0 (some (SB, 2)), AV.sl .nil []].set 1 (.sl (.ex U8 1) [])) = s.set b [.gp b 0 (some (SB, 2)), .sl (.ex U8 1) []] := by simp
          have hid : ((w.setCell ⟨blk, 0, none⟩ (.pointer (some ⟨blk, 0, none⟩))).setCell ⟨blk, 1, none⟩ (.slice none 0 0)) = w.setCell ⟨blk, 0, none⟩ (.pointer (some ⟨blk, 0, none⟩)) := by
            obtain ⟨fz, hh1, _⟩ := hh1; rw [setCell_eq_setRow _ blk 1 _ SB fz _ hh1]
            have : (#[Value.pointer (some ⟨blk, 0, none⟩), .slice none 0 0].setIfInBounds 1 (.slice none 0 0)) = #[Value.pointer (some ⟨blk, 0, none⟩), .slice none 0 0] := rfl
            rw [this]; exact setRow_self _ _ _ _ _ hh1
          simp only [hset, hid] at f3
          exact ⟨_, _, rfl, f3.drew.1.unit⟩
      · cases e
    · cases e
  · cases e
end Go.Proofs.Tryz.Ai
end
section
/- Texts by the machine's own words: a byte's place, a byte's number, the order. -/
namespace Go.Proofs.Tryz.Ai
open Go Go.AI Go.RowKit Go.Proofs
set_option linter.unusedVariables false

set_option maxHeartbeats 1000000 in
set_option maxRecDepth 100000 in
theorem walk_index (s : ByteArray) (c : Int) (w : World) :
    Calls Tryz.prog 133 #[.string s, .int .u8 c] w fun e w' => e = .returned (.int .i64 (Lib.indexByte s.data.toList c.toNat.toUInt8)) ∧ w' = w := by
  go_enter Tryz.func133, Tryz.ntmps133
  go_wp2
  rw [run_callFunc_extern Tryz.func152 (by kernel_rfl) (by kernel_rfl) (by kernel_rfl) (e := Extern.BytealgIndexByte.indexByte) (by kernel_rfl), Lib.run_indexByteString]
  simp only [Result.andThen]
  rw [Oper.upon_value]
  go_wp2
  go_ret
  exact ⟨rfl, rfl⟩


set_option maxHeartbeats 1000000 in
set_option maxRecDepth 100000 in
theorem walk_count (s : ByteArray) (c : UInt8) (w : World) :
    Calls Tryz.prog 117 #[.string s, .string ⟨#[c]⟩] w fun e w' => e = .returned (.int .i64 (Lib.countByte s.data.toList c)) ∧ w' = w := by
  go_enter Tryz.func117, Tryz.ntmps117
  go_wp2
  rw [run_callFunc_extern Tryz.func138 (by kernel_rfl) (by kernel_rfl) (by kernel_rfl) (e := Extern.BytealgCount.count) (by kernel_rfl), Lib.run_countString]
  simp only [Result.andThen]
  rw [Oper.upon_value]
  go_wp2
  go_ret
  exact ⟨rfl, rfl⟩

section
variable {B : Nat} {W0 : World} {T0 : Nat → Prop} {μ0 : Gh} {w0 : World} {N : Nat} {μ : Gh} {lx : Nat → Option Nat} {a : Act} {w : World} {st : St}
theorem sim_num (h : Sim B T0 μ0 w0 N μ lx a w st) (k : IntKind) (n : Int) : Sim B T0 μ0 w0 1 μ (fun _ => none) ⟨#[.int k n], []⟩ w ⟨[(0, .int k n)], [], st.s⟩ :=
  h.out (.mk' ⟨.int k n, trivial⟩ fun j => by cases j <;> simp [ownV, exBlk]) fun d i q => by cases q
theorem two_args {vs : Array Value} (h : vs.size = 2) : ∃ u v, vs = #[u, v] := by
  obtain ⟨l⟩ := vs
  match l, h with
  | [u, v], _ => exact ⟨u, v, rfl⟩
theorem rep_str {v : Value} {l : List UInt8} (h : Rep B μ w v (.str l)) : ∃ s : ByteArray, v = .string s ∧ s.data.toList = l := by
  cases h with
  | str s => exact ⟨s, rfl, rfl⟩
theorem rep_int {v : Value} {k : IntKind} {n : Int} (h : Rep B μ w v (.int k n)) : v = .int k n := by
  cases h; rfl
end

def indexT : List AV → List (List AV) → Option (AV × List (List AV))
  | [.str l, .int .u8 c], s => some (.int .i64 (Lib.indexByte l c.toNat.toUInt8), s)
  | _, _ => none
theorem index_ok {B : Nat} {W0 : World} {xs : List AV} {s : List (List AV)} {r : AV} {s' : List (List AV)} (e : indexT xs s = some (r, s')) : ACalls Tryz.prog B W0 133 xs s r s' := by
  unfold indexT at e
  split at e
  · rename_i l c
    simp only [Option.some.injEq, Prod.mk.injEq] at e
    obtain ⟨rfl, rfl⟩ := e
    intro T μ w vs hsz hW hs
    obtain ⟨u, v, rfl⟩ := two_args (vs := vs) hsz
    obtain ⟨st, rfl, rfl⟩ := rep_str (hs.tmp 0 (.str l) (by simp [params, look])).1
    obtain rfl := rep_int (hs.tmp 1 (.int .u8 c) (by simp [params, look])).1
    refine (walk_index st c w).mono ?_
    rintro e w' ⟨rfl, rfl⟩
    exact ⟨_, _, rfl, sim_num hs _ _⟩
  · cases e
def countT : List AV → List (List AV) → Option (AV × List (List AV))
  | [.str l, .str [c]], s => some (.int .i64 (Lib.countByte l c), s)
  | _, _ => none
theorem count_ok {B : Nat} {W0 : World} {xs : List AV} {s : List (List AV)} {r : AV} {s' : List (List AV)} (e : countT xs s = some (r, s')) : ACalls Tryz.prog B W0 117 xs s r s' := by
  unfold countT at e
  split at e
  · rename_i l c
    simp only [Option.some.injEq, Prod.mk.injEq] at e
    obtain ⟨rfl, rfl⟩ := e
    intro T μ w vs hsz hW hs
    obtain ⟨u, v, rfl⟩ := two_args (vs := vs) hsz
    obtain ⟨st, rfl, rfl⟩ := rep_str (hs.tmp 0 (.str l) (by simp [params, look])).1
    obtain ⟨⟨⟨p⟩⟩, rfl, hp⟩ := rep_str (hs.tmp 1 (.str [c]) (by simp [params, look])).1
    simp only at hp
    subst hp
    refine (walk_count st c w).mono ?_
    rintro e w' ⟨rfl, rfl⟩
    exact ⟨_, _, rfl, sim_num hs _ _⟩
  · cases e
end Go.Proofs.Tryz.Ai
end
section
/- The digits of a number: by the laid table of powers. -/
namespace Go.Proofs.Tryz.Ai
open Go Go.AI Go.RowKit Go.Proofs Go.Shelf
set_option linter.unusedVariables false
def ren : Go.Shelf.Ren := ⟨fun | 99 => 112 | 105 => 93 | 129 => 148 | 138 => 117 | 143 => 118 | 145 => 55 | 146 => 56 | 154 => 98 | 155 => 58 | 156 => 59 | 165 => 99 | 166 => 100 | 169 => 69 | 170 => 113 | 171 => 54 | 172 => 97 | 195 => 137 | 197 => 121 | 205 => 156 | 206 => 128 | 212 => 111 | 217 => 133 | 218 => 138 | 219 => 115 | 220 => 95 | 221 => 96 | 224 => 135 | 225 => 134 | 240 => 103 | 241 => 122 | 243 => 94 | 244 => 119 | 245 => 120 | 246 => 114 | 247 => 139 | 260 => 144 | 263 => 126 | 264 => 127 | 266 => 152 | 267 => 136 | 268 => 116 | 276 => 123 | 277 => 145 | 279 => 140 | 280 => 141 | 281 => 142 | 282 => 143 | 283 => 129 | 284 => 130 | 285 => 131 | 286 => 132 | 287 => 154 | 314 => 153 | 316 => 155 | 317 => 147 | 318 => 149 | 319 => 150 | 320 => 151 | 321 => 159 | 322 => 160 | 337 => 157 | 338 => 158 | n => n, fun | 0 => 0 | 2 => 2 | 3 => 3 | 4 => 4 | 5 => 5 | 9 => 9 | 20 => 20 | 21 => 21 | 31 => 88 | 37 => 35 | 46 => 138 | 51 => 130 | 53 => 141 | 59 => 86 | 70 => 98 | 72 => 100 | 75 => 102 | 76 => 125 | 80 => 104 | 85 => 166 | 105 => 150 | 109 => 144 | 119 => 183 | 127 => 129 | 138 => 185 | 139 => 186 | 143 => 190 | 145 => 192 | 146 => 155 | 148 => 157 | 164 => 152 | 167 => 165 | 168 => 168 | 171 => 159 | 173 => 162 | 175 => 177 | 210 => 181 | 212 => 173 | 213 => 174 | 232 => 193 | 233 => 194 | n => n, fun | 1 => 0 | 3 => 4 | 4 => 5 | 15 => 2 | 16 => 3 | 17 => 1 | 18 => 6 | 19 => 7 | n => n⟩
theorem lays_LaysM_n171 : LaysM.n171 Tryz.prog ren := { mixed := by kernel_rfl, f129 := by kernel_rfl, f171 := by kernel_rfl, f243 := by kernel_rfl, f246 := by kernel_rfl, f283 := by kernel_rfl, f284 := by kernel_rfl, f285 := by kernel_rfl, f286 := by kernel_rfl, f317 := by kernel_rfl, f318 := by kernel_rfl, f319 := by kernel_rfl, f320 := by kernel_rfl, f337 := by kernel_rfl, f338 := by kernel_rfl, t0 := Tryz.underlying0, a0 := Tryz.isAgg0, z0 := Tryz.sizeOf0, v0 := Tryz.zeroValue0, t2 := Tryz.underlying2, a2 := Tryz.isAgg2, z2 := Tryz.sizeOf2, v2 := Tryz.zeroValue2, t3 := Tryz.underlying3, a3 := Tryz.isAgg3, z3 := Tryz.sizeOf3, v3 := Tryz.zeroValue3, t4 := Tryz.underlying4, a4 := Tryz.isAgg4, z4 := Tryz.sizeOf4, v4 := Tryz.zeroValue4, t5 := Tryz.underlying5, a5 := Tryz.isAgg5, z5 := Tryz.sizeOf5, v5 := Tryz.zeroValue5, t9 := Tryz.underlying9, a9 := Tryz.isAgg9, z9 := Tryz.sizeOf9, v9 := Tryz.zeroValue9, t20 := Tryz.underlying20, a20 := Tryz.isAgg20, z20 := Tryz.sizeOf20, v20 := Tryz.zeroValue20, t37 := Tryz.underlying35, a37 := Tryz.isAgg35, z37 := Tryz.sizeOf35, v37 := Tryz.zeroValue35, t46 := Tryz.underlying138, a46 := Tryz.isAgg138, z46 := Tryz.sizeOf138, v46 := Tryz.zeroValue138, t51 := Tryz.underlying130, a51 := Tryz.isAgg130, z51 := Tryz.sizeOf130, v51 := Tryz.zeroValue130, t53 := Tryz.underlying141, a53 := Tryz.isAgg141, z53 := Tryz.sizeOf141, v53 := Tryz.zeroValue141, t171 := Tryz.underlying159, a171 := Tryz.isAgg159, z171 := Tryz.sizeOf159, v171 := Tryz.zeroValue159, t173 := Tryz.underlying162, a173 := Tryz.isAgg162, z173 := Tryz.sizeOf162, v173 := Tryz.zeroValue162, t212 := Tryz.underlying173, a212 := Tryz.isAgg173, z212 := Tryz.sizeOf173, v212 := Tryz.zeroValue173, t213 := Tryz.underlying174, a213 := Tryz.isAgg174, z213 := Tryz.sizeOf174, t232 := Tryz.underlying193, a232 := Tryz.isAgg193, z232 := Tryz.sizeOf193, v232 := Tryz.zeroValue193, t233 := Tryz.underlying194, a233 := Tryz.isAgg194, z233 := Tryz.sizeOf194, v233 := Tryz.zeroValue194, g17 := by kernel_rfl, g18 := by kernel_rfl, g19 := by kernel_rfl, i0 := by kernel_rfl, i2 := by kernel_rfl, i3 := by kernel_rfl, i4 := by kernel_rfl, i5 := by kernel_rfl, i9 := by kernel_rfl, i20 := by kernel_rfl, i37 := by kernel_rfl, i46 := by kernel_rfl, i51 := by kernel_rfl, i53 := by kernel_rfl, i171 := by kernel_rfl, i173 := by kernel_rfl, i212 := by kernel_rfl, i232 := by kernel_rfl, i233 := by kernel_rfl, m17 := by kernel_rfl, m18 := by kernel_rfl, m19 := by kernel_rfl }
theorem lays_Lays_n219 : Lays.n219 Tryz.prog ren := { mixed := by kernel_rfl, f217 := by kernel_rfl, f219 := by kernel_rfl, f224 := by kernel_rfl, f225 := by kernel_rfl, f266 := by kernel_rfl, f267 := by kernel_rfl, f314 := by kernel_rfl, t3 := Tryz.underlying3, a3 := Tryz.isAgg3, z3 := Tryz.sizeOf3, v3 := Tryz.zeroValue3, t4 := Tryz.underlying4, a4 := Tryz.isAgg4, z4 := Tryz.sizeOf4, v4 := Tryz.zeroValue4, t5 := Tryz.underlying5, a5 := Tryz.isAgg5, z5 := Tryz.sizeOf5, v5 := Tryz.zeroValue5, t9 := Tryz.underlying9, a9 := Tryz.isAgg9, z9 := Tryz.sizeOf9, v9 := Tryz.zeroValue9, t46 := Tryz.underlying138, a46 := Tryz.isAgg138, z46 := Tryz.sizeOf138, v46 := Tryz.zeroValue138, t51 := Tryz.underlying130, a51 := Tryz.isAgg130, z51 := Tryz.sizeOf130, v51 := Tryz.zeroValue130, t146 := Tryz.underlying155, a146 := Tryz.isAgg155, z146 := Tryz.sizeOf155, v146 := Tryz.zeroValue155, g1 := by kernel_rfl }
theorem lays_LaysC_n172 : LaysC.n172 Tryz.prog ren := { mixed := by kernel_rfl, f129 := by kernel_rfl, f171 := by kernel_rfl, f172 := by kernel_rfl, f205 := by kernel_rfl, f243 := by kernel_rfl, f244 := by kernel_rfl, f245 := by kernel_rfl, f246 := by kernel_rfl, f247 := by kernel_rfl, f279 := by kernel_rfl, f280 := by kernel_rfl, f281 := by kernel_rfl, f282 := by kernel_rfl, f283 := by kernel_rfl, f284 := by kernel_rfl, f285 := by kernel_rfl, f286 := by kernel_rfl, f287 := by kernel_rfl, f316 := by kernel_rfl, f317 := by kernel_rfl, f318 := by kernel_rfl, f319 := by kernel_rfl, f320 := by kernel_rfl, f321 := by kernel_rfl, f322 := by kernel_rfl, f337 := by kernel_rfl, f338 := by kernel_rfl, t0 := Tryz.underlying0, a0 := Tryz.isAgg0, z0 := Tryz.sizeOf0, v0 := Tryz.zeroValue0, t2 := Tryz.underlying2, a2 := Tryz.isAgg2, z2 := Tryz.sizeOf2, v2 := Tryz.zeroValue2, t3 := Tryz.underlying3, a3 := Tryz.isAgg3, z3 := Tryz.sizeOf3, v3 := Tryz.zeroValue3, t4 := Tryz.underlying4, a4 := Tryz.isAgg4, z4 := Tryz.sizeOf4, v4 := Tryz.zeroValue4, t5 := Tryz.underlying5, a5 := Tryz.isAgg5, z5 := Tryz.sizeOf5, v5 := Tryz.zeroValue5, t9 := Tryz.underlying9, a9 := Tryz.isAgg9, z9 := Tryz.sizeOf9, v9 := Tryz.zeroValue9, t20 := Tryz.underlying20, a20 := Tryz.isAgg20, z20 := Tryz.sizeOf20, v20 := Tryz.zeroValue20, t21 := Tryz.underlying21, a21 := Tryz.isAgg21, z21 := Tryz.sizeOf21, v21 := Tryz.zeroValue21, t37 := Tryz.underlying35, a37 := Tryz.isAgg35, z37 := Tryz.sizeOf35, v37 := Tryz.zeroValue35, t46 := Tryz.underlying138, a46 := Tryz.isAgg138, z46 := Tryz.sizeOf138, v46 := Tryz.zeroValue138, t51 := Tryz.underlying130, a51 := Tryz.isAgg130, z51 := Tryz.sizeOf130, v51 := Tryz.zeroValue130, t53 := Tryz.underlying141, a53 := Tryz.isAgg141, z53 := Tryz.sizeOf141, v53 := Tryz.zeroValue141, t75 := Tryz.underlying102, a75 := Tryz.isAgg102, z75 := Tryz.sizeOf102, v75 := Tryz.zeroValue102, t76 := Tryz.underlying125, a76 := Tryz.isAgg125, z76 := Tryz.sizeOf125, v76 := Tryz.zeroValue125, t85 := Tryz.underlying166, a85 := Tryz.isAgg166, z85 := Tryz.sizeOf166, v85 := Tryz.zeroValue166, t127 := Tryz.underlying129, a127 := Tryz.isAgg129, z127 := Tryz.sizeOf129, v127 := Tryz.zeroValue129, t143 := Tryz.underlying190, a143 := Tryz.isAgg190, z143 := Tryz.sizeOf190, v143 := Tryz.zeroValue190, t145 := Tryz.underlying192, a145 := Tryz.isAgg192, z145 := Tryz.sizeOf192, v145 := Tryz.zeroValue192, t167 := Tryz.underlying165, a167 := Tryz.isAgg165, z167 := Tryz.sizeOf165, v167 := Tryz.zeroValue165, t168 := Tryz.underlying168, a168 := Tryz.isAgg168, z168 := Tryz.sizeOf168, v168 := Tryz.zeroValue168, t171 := Tryz.underlying159, a171 := Tryz.isAgg159, z171 := Tryz.sizeOf159, v171 := Tryz.zeroValue159, t173 := Tryz.underlying162, a173 := Tryz.isAgg162, z173 := Tryz.sizeOf162, v173 := Tryz.zeroValue162, t175 := Tryz.underlying177, a175 := Tryz.isAgg177, z175 := Tryz.sizeOf177, v175 := Tryz.zeroValue177, t210 := Tryz.underlying181, a210 := Tryz.isAgg181, z210 := Tryz.sizeOf181, v210 := Tryz.zeroValue181, t212 := Tryz.underlying173, a212 := Tryz.isAgg173, z212 := Tryz.sizeOf173, v212 := Tryz.zeroValue173, t213 := Tryz.underlying174, a213 := Tryz.isAgg174, z213 := Tryz.sizeOf174, t232 := Tryz.underlying193, a232 := Tryz.isAgg193, z232 := Tryz.sizeOf193, v232 := Tryz.zeroValue193, t233 := Tryz.underlying194, a233 := Tryz.isAgg194, z233 := Tryz.sizeOf194, v233 := Tryz.zeroValue194, g15 := by kernel_rfl, g16 := by kernel_rfl, g17 := by kernel_rfl, g18 := by kernel_rfl, g19 := by kernel_rfl, t80 := Tryz.underlying104, a80 := Tryz.isAgg104, z80 := Tryz.sizeOf104, v80 := Tryz.zeroValue104, i0 := by kernel_rfl, i2 := by kernel_rfl, i3 := by kernel_rfl, i4 := by kernel_rfl, i5 := by kernel_rfl, i9 := by kernel_rfl, i20 := by kernel_rfl, i21 := by kernel_rfl, i37 := by kernel_rfl, i46 := by kernel_rfl, i51 := by kernel_rfl, i53 := by kernel_rfl, i75 := by kernel_rfl, i76 := by kernel_rfl, i80 := by kernel_rfl, i85 := by kernel_rfl, i127 := by kernel_rfl, i143 := by kernel_rfl, i145 := by kernel_rfl, i167 := by kernel_rfl, i168 := by kernel_rfl, i171 := by kernel_rfl, i173 := by kernel_rfl, i175 := by kernel_rfl, i210 := by kernel_rfl, i212 := by kernel_rfl, i232 := by kernel_rfl, i233 := by kernel_rfl, m15 := by kernel_rfl, m16 := by kernel_rfl, m17 := by kernel_rfl, m18 := by kernel_rfl, m19 := by kernel_rfl, c0 := by kernel_rfl, c2 := by kernel_rfl, c3 := by kernel_rfl, c4 := by kernel_rfl, c5 := by kernel_rfl, c9 := by kernel_rfl, c20 := by kernel_rfl, c21 := by kernel_rfl, c37 := by kernel_rfl, c46 := by kernel_rfl, c51 := by kernel_rfl, c53 := by kernel_rfl, c75 := by kernel_rfl, c76 := by kernel_rfl, c80 := by kernel_rfl, c85 := by kernel_rfl, c127 := by kernel_rfl, c143 := by kernel_rfl, c145 := by kernel_rfl, c167 := by kernel_rfl, c168 := by kernel_rfl, c171 := by kernel_rfl, c173 := by kernel_rfl, c175 := by kernel_rfl, c210 := by kernel_rfl, c212 := by kernel_rfl, c213 := by kernel_rfl, c232 := by kernel_rfl, c233 := by kernel_rfl }
theorem lays_Lays_n155 : Lays.n155 Tryz.prog ren := { mixed := by kernel_rfl, f138 := by kernel_rfl, f143 := by kernel_rfl, f154 := by kernel_rfl, f155 := by kernel_rfl, f165 := by kernel_rfl, f166 := by kernel_rfl, f169 := by kernel_rfl, f195 := by kernel_rfl, f197 := by kernel_rfl, f217 := by kernel_rfl, f218 := by kernel_rfl, f219 := by kernel_rfl, f224 := by kernel_rfl, f225 := by kernel_rfl, f240 := by kernel_rfl, f241 := by kernel_rfl, f260 := by kernel_rfl, f266 := by kernel_rfl, f267 := by kernel_rfl, f276 := by kernel_rfl, f277 := by kernel_rfl, f314 := by kernel_rfl, t0 := Tryz.underlying0, a0 := Tryz.isAgg0, z0 := Tryz.sizeOf0, v0 := Tryz.zeroValue0, t3 := Tryz.underlying3, a3 := Tryz.isAgg3, z3 := Tryz.sizeOf3, v3 := Tryz.zeroValue3, t4 := Tryz.underlying4, a4 := Tryz.isAgg4, z4 := Tryz.sizeOf4, v4 := Tryz.zeroValue4, t5 := Tryz.underlying5, a5 := Tryz.isAgg5, z5 := Tryz.sizeOf5, v5 := Tryz.zeroValue5, t9 := Tryz.underlying9, a9 := Tryz.isAgg9, z9 := Tryz.sizeOf9, v9 := Tryz.zeroValue9, t20 := Tryz.underlying20, a20 := Tryz.isAgg20, z20 := Tryz.sizeOf20, v20 := Tryz.zeroValue20, t21 := Tryz.underlying21, a21 := Tryz.isAgg21, z21 := Tryz.sizeOf21, v21 := Tryz.zeroValue21, t37 := Tryz.underlying35, a37 := Tryz.isAgg35, z37 := Tryz.sizeOf35, v37 := Tryz.zeroValue35, t46 := Tryz.underlying138, a46 := Tryz.isAgg138, z46 := Tryz.sizeOf138, v46 := Tryz.zeroValue138, t51 := Tryz.underlying130, a51 := Tryz.isAgg130, z51 := Tryz.sizeOf130, v51 := Tryz.zeroValue130, t70 := Tryz.underlying98, a70 := Tryz.isAgg98, z70 := Tryz.sizeOf98, v70 := Tryz.zeroValue98, t72 := Tryz.underlying100, a72 := Tryz.isAgg100, z72 := Tryz.sizeOf100, v72 := Tryz.zeroValue100, t75 := Tryz.underlying102, a75 := Tryz.isAgg102, z75 := Tryz.sizeOf102, v75 := Tryz.zeroValue102, t76 := Tryz.underlying125, a76 := Tryz.isAgg125, z76 := Tryz.sizeOf125, v76 := Tryz.zeroValue125, t105 := Tryz.underlying150, a105 := Tryz.isAgg150, z105 := Tryz.sizeOf150, v105 := Tryz.zeroValue150, t119 := Tryz.underlying183, a119 := Tryz.isAgg183, z119 := Tryz.sizeOf183, t127 := Tryz.underlying129, a127 := Tryz.isAgg129, z127 := Tryz.sizeOf129, v127 := Tryz.zeroValue129, t138 := Tryz.underlying185, a138 := Tryz.isAgg185, z138 := Tryz.sizeOf185, v138 := Tryz.zeroValue185, t139 := Tryz.underlying186, a139 := Tryz.isAgg186, z139 := Tryz.sizeOf186, v139 := Tryz.zeroValue186, t146 := Tryz.underlying155, a146 := Tryz.isAgg155, z146 := Tryz.sizeOf155, v146 := Tryz.zeroValue155, t164 := Tryz.underlying152, a164 := Tryz.isAgg152, z164 := Tryz.sizeOf152, v164 := Tryz.zeroValue152, g1 := by kernel_rfl, g3 := by kernel_rfl, g4 := by kernel_rfl }
theorem lays_Lays_n105 : Lays.n105 Tryz.prog ren := { mixed := by kernel_rfl, f99 := by kernel_rfl, f105 := by kernel_rfl, f165 := by kernel_rfl, f166 := by kernel_rfl, f169 := by kernel_rfl, f170 := by kernel_rfl, f206 := by kernel_rfl, f212 := by kernel_rfl, f240 := by kernel_rfl, f241 := by kernel_rfl, f263 := by kernel_rfl, f264 := by kernel_rfl, f276 := by kernel_rfl, f277 := by kernel_rfl, t0 := Tryz.underlying0, a0 := Tryz.isAgg0, z0 := Tryz.sizeOf0, v0 := Tryz.zeroValue0, t3 := Tryz.underlying3, a3 := Tryz.isAgg3, z3 := Tryz.sizeOf3, v3 := Tryz.zeroValue3, t4 := Tryz.underlying4, a4 := Tryz.isAgg4, z4 := Tryz.sizeOf4, v4 := Tryz.zeroValue4, t5 := Tryz.underlying5, a5 := Tryz.isAgg5, z5 := Tryz.sizeOf5, v5 := Tryz.zeroValue5, t9 := Tryz.underlying9, a9 := Tryz.isAgg9, z9 := Tryz.sizeOf9, v9 := Tryz.zeroValue9, t20 := Tryz.underlying20, a20 := Tryz.isAgg20, z20 := Tryz.sizeOf20, v20 := Tryz.zeroValue20, t37 := Tryz.underlying35, a37 := Tryz.isAgg35, z37 := Tryz.sizeOf35, v37 := Tryz.zeroValue35, t46 := Tryz.underlying138, a46 := Tryz.isAgg138, z46 := Tryz.sizeOf138, v46 := Tryz.zeroValue138, t51 := Tryz.underlying130, a51 := Tryz.isAgg130, z51 := Tryz.sizeOf130, v51 := Tryz.zeroValue130, t53 := Tryz.underlying141, a53 := Tryz.isAgg141, z53 := Tryz.sizeOf141, v53 := Tryz.zeroValue141, t70 := Tryz.underlying98, a70 := Tryz.isAgg98, z70 := Tryz.sizeOf98, v70 := Tryz.zeroValue98, t72 := Tryz.underlying100, a72 := Tryz.isAgg100, z72 := Tryz.sizeOf100, v72 := Tryz.zeroValue100, t75 := Tryz.underlying102, a75 := Tryz.isAgg102, z75 := Tryz.sizeOf102, v75 := Tryz.zeroValue102, t76 := Tryz.underlying125, a76 := Tryz.isAgg125, z76 := Tryz.sizeOf125, v76 := Tryz.zeroValue125, t109 := Tryz.underlying144, a109 := Tryz.isAgg144, z109 := Tryz.sizeOf144, v109 := Tryz.zeroValue144, t127 := Tryz.underlying129, a127 := Tryz.isAgg129, z127 := Tryz.sizeOf129, v127 := Tryz.zeroValue129, t146 := Tryz.underlying155, a146 := Tryz.isAgg155, z146 := Tryz.sizeOf155, v146 := Tryz.zeroValue155, t148 := Tryz.underlying157, a148 := Tryz.isAgg157, z148 := Tryz.sizeOf157, v148 := Tryz.zeroValue157, t164 := Tryz.underlying152, a164 := Tryz.isAgg152, z164 := Tryz.sizeOf152, v164 := Tryz.zeroValue152 }
theorem lays_Builder_Extra : Builder.Extra Tryz.prog ren := { sizeBuilder := by kernel_rfl, liesBuilder := by kernel_rfl, t5 := Tryz.underlying5, a5 := Tryz.isAgg5, z5 := Tryz.sizeOf5, v5 := Tryz.zeroValue5, infoByte := by kernel_rfl, cellsByte := by kernel_rfl, sizeByte := by kernel_rfl, neB5 := by decide }
theorem lays_Lays_n145 : Lays.n145 Tryz.prog ren := { mixed := by kernel_rfl, f145 := by kernel_rfl, f217 := by kernel_rfl, f219 := by kernel_rfl, f220 := by kernel_rfl, f224 := by kernel_rfl, f225 := by kernel_rfl, f266 := by kernel_rfl, f267 := by kernel_rfl, f314 := by kernel_rfl, t3 := Tryz.underlying3, a3 := Tryz.isAgg3, z3 := Tryz.sizeOf3, v3 := Tryz.zeroValue3, t4 := Tryz.underlying4, a4 := Tryz.isAgg4, z4 := Tryz.sizeOf4, v4 := Tryz.zeroValue4, t5 := Tryz.underlying5, a5 := Tryz.isAgg5, z5 := Tryz.sizeOf5, v5 := Tryz.zeroValue5, t9 := Tryz.underlying9, a9 := Tryz.isAgg9, z9 := Tryz.sizeOf9, v9 := Tryz.zeroValue9, t46 := Tryz.underlying138, a46 := Tryz.isAgg138, z46 := Tryz.sizeOf138, v46 := Tryz.zeroValue138, t51 := Tryz.underlying130, a51 := Tryz.isAgg130, z51 := Tryz.sizeOf130, v51 := Tryz.zeroValue130, t59 := Tryz.underlying86, a59 := Tryz.isAgg86, z59 := Tryz.sizeOf86, v59 := Tryz.zeroValue86, t146 := Tryz.underlying155, a146 := Tryz.isAgg155, z146 := Tryz.sizeOf155, v146 := Tryz.zeroValue155, g1 := by kernel_rfl }
theorem lays_Lays_n146 : Lays.n146 Tryz.prog ren := { mixed := by kernel_rfl, f138 := by kernel_rfl, f143 := by kernel_rfl, f146 := by kernel_rfl, f195 := by kernel_rfl, f197 := by kernel_rfl, f217 := by kernel_rfl, f218 := by kernel_rfl, f219 := by kernel_rfl, f221 := by kernel_rfl, f224 := by kernel_rfl, f225 := by kernel_rfl, f260 := by kernel_rfl, f266 := by kernel_rfl, f267 := by kernel_rfl, f268 := by kernel_rfl, f314 := by kernel_rfl, t0 := Tryz.underlying0, a0 := Tryz.isAgg0, z0 := Tryz.sizeOf0, v0 := Tryz.zeroValue0, t3 := Tryz.underlying3, a3 := Tryz.isAgg3, z3 := Tryz.sizeOf3, v3 := Tryz.zeroValue3, t4 := Tryz.underlying4, a4 := Tryz.isAgg4, z4 := Tryz.sizeOf4, v4 := Tryz.zeroValue4, t5 := Tryz.underlying5, a5 := Tryz.isAgg5, z5 := Tryz.sizeOf5, v5 := Tryz.zeroValue5, t9 := Tryz.underlying9, a9 := Tryz.isAgg9, z9 := Tryz.sizeOf9, v9 := Tryz.zeroValue9, t21 := Tryz.underlying21, a21 := Tryz.isAgg21, z21 := Tryz.sizeOf21, v21 := Tryz.zeroValue21, t31 := Tryz.underlying88, a31 := Tryz.isAgg88, z31 := Tryz.sizeOf88, v31 := Tryz.zeroValue88, t46 := Tryz.underlying138, a46 := Tryz.isAgg138, z46 := Tryz.sizeOf138, v46 := Tryz.zeroValue138, t51 := Tryz.underlying130, a51 := Tryz.isAgg130, z51 := Tryz.sizeOf130, v51 := Tryz.zeroValue130, t105 := Tryz.underlying150, a105 := Tryz.isAgg150, z105 := Tryz.sizeOf150, v105 := Tryz.zeroValue150, t119 := Tryz.underlying183, a119 := Tryz.isAgg183, z119 := Tryz.sizeOf183, t138 := Tryz.underlying185, a138 := Tryz.isAgg185, z138 := Tryz.sizeOf185, v138 := Tryz.zeroValue185, t139 := Tryz.underlying186, a139 := Tryz.isAgg186, z139 := Tryz.sizeOf186, v139 := Tryz.zeroValue186, t146 := Tryz.underlying155, a146 := Tryz.isAgg155, z146 := Tryz.sizeOf155, v146 := Tryz.zeroValue155, g1 := by kernel_rfl, g3 := by kernel_rfl, g4 := by kernel_rfl }
theorem lays_Lays_n99 : Lays.n99 Tryz.prog ren := { mixed := by kernel_rfl, f99 := by kernel_rfl, f206 := by kernel_rfl, t3 := Tryz.underlying3, a3 := Tryz.isAgg3, z3 := Tryz.sizeOf3, v3 := Tryz.zeroValue3, t4 := Tryz.underlying4, a4 := Tryz.isAgg4, z4 := Tryz.sizeOf4, v4 := Tryz.zeroValue4, t9 := Tryz.underlying9, a9 := Tryz.isAgg9, z9 := Tryz.sizeOf9, v9 := Tryz.zeroValue9 }
theorem lays_Lays_n156 : Lays.n156 Tryz.prog ren := { mixed := by kernel_rfl, f156 := by kernel_rfl, f165 := by kernel_rfl, f166 := by kernel_rfl, f169 := by kernel_rfl, f240 := by kernel_rfl, f241 := by kernel_rfl, f276 := by kernel_rfl, f277 := by kernel_rfl, t0 := Tryz.underlying0, a0 := Tryz.isAgg0, z0 := Tryz.sizeOf0, v0 := Tryz.zeroValue0, t3 := Tryz.underlying3, a3 := Tryz.isAgg3, z3 := Tryz.sizeOf3, v3 := Tryz.zeroValue3, t4 := Tryz.underlying4, a4 := Tryz.isAgg4, z4 := Tryz.sizeOf4, v4 := Tryz.zeroValue4, t9 := Tryz.underlying9, a9 := Tryz.isAgg9, z9 := Tryz.sizeOf9, v9 := Tryz.zeroValue9, t20 := Tryz.underlying20, a20 := Tryz.isAgg20, z20 := Tryz.sizeOf20, v20 := Tryz.zeroValue20, t31 := Tryz.underlying88, a31 := Tryz.isAgg88, z31 := Tryz.sizeOf88, v31 := Tryz.zeroValue88, t37 := Tryz.underlying35, a37 := Tryz.isAgg35, z37 := Tryz.sizeOf35, v37 := Tryz.zeroValue35, t70 := Tryz.underlying98, a70 := Tryz.isAgg98, z70 := Tryz.sizeOf98, v70 := Tryz.zeroValue98, t72 := Tryz.underlying100, a72 := Tryz.isAgg100, z72 := Tryz.sizeOf100, v72 := Tryz.zeroValue100, t75 := Tryz.underlying102, a75 := Tryz.isAgg102, z75 := Tryz.sizeOf102, v75 := Tryz.zeroValue102, t76 := Tryz.underlying125, a76 := Tryz.isAgg125, z76 := Tryz.sizeOf125, v76 := Tryz.zeroValue125, t127 := Tryz.underlying129, a127 := Tryz.isAgg129, z127 := Tryz.sizeOf129, v127 := Tryz.zeroValue129, t164 := Tryz.underlying152, a164 := Tryz.isAgg152, z164 := Tryz.sizeOf152, v164 := Tryz.zeroValue152 }


def Laid (W : World) : Prop := Lib.TabIs Tryz.prog W "internal/strconv.uint64pow10" .u64 Lib.pow10Tab
section
variable {B : Nat} {T0 : Nat → Prop} {μ0 : Gh} {w0 : World} {N : Nat} {μ : Gh} {lx : Nat → Option Nat} {a : Act} {w : World} {st : St}
theorem sim_drewN (h : Sim B T0 μ0 w0 N μ lx a w st) (k : Nat) : Sim B T0 μ0 w0 N μ lx a (w.drewN k) st := by
  induction k with
  | zero => exact h
  | succ k ih => exact ih.drew.1
theorem sim_grow (os : List Obj) : ∀ {w : World}, Sim B T0 μ0 w0 N μ lx a w st → Sim B T0 μ0 w0 N μ lx a (Go.Sort.grow w os.toArray) st := by
  induction os with
  | nil => exact fun h => by simpa using h
  | cons o r ih =>
    intro w h
    have := ih (h.alloc o)
    rw [Go.Sort.alloc_eq_grow, Go.Sort.grow_grow] at this
    simpa using this
end
noncomputable def itoaT : List AV → List (List AV) → Option (AV × List (List AV))
  | [.int .i64 n], s => need (-9223372036854775808 ≤ n ∧ n ≤ 9223372036854775807) (some (.str (Lib.itoa n), s))
  | _, _ => none
theorem itoa_ok {W0 : World} (hl : Laid W0) {xs : List AV} {s : List (List AV)} {r : AV} {s' : List (List AV)} (e : itoaT xs s = some (r, s')) : ACalls Tryz.prog W0.heap.size W0 54 xs s r s' := by
  unfold itoaT at e
  split at e
  · rename_i n
    obtain ⟨hn, e⟩ := need_eq e
    simp only [Option.some.injEq, Prod.mk.injEq] at e
    obtain ⟨rfl, rfl⟩ := e
    intro T μ w vs hsz hW hs
    obtain ⟨v, rfl, _⟩ := one_arg (B := 0) (T0 := T) (μ0 := μ) (w0 := w) (N := 1) (μ := μ) (lx := fun _ => none) (w := w) (x := .nilp) (s := []) hsz
    obtain rfl := rep_int (hs.tmp 0 (.int .i64 n) (by simp [params, look])).1
    have hw : Laid w := Lib.tabBelow_of_tabIs hl w hW
    refine (Any.strconv_Itoa lays_LaysM_n171 n hn.1 hn.2 w hw).mono ?_
    rintro e w' ⟨rfl, k, os, rfl⟩
    exact ⟨_, _, rfl, by have := (sim_grow os.toList (sim_drewN hs k)).text (Lib.itoa n); simpa using this⟩
  · cases e
end Go.Proofs.Tryz.Ai
end
section
/- Functions of the library, by the kit's contracts. -/
namespace Go.Proofs.Tryz.Ai
open Go Go.AI Go.RowKit Go.Proofs Go.Shelf
set_option linter.unusedVariables false

def IntAt (W : World) (g : Nat) : Prop := ∃ m, W.cell? ⟨g, 0, none⟩ = some (.int .i64 m)
def ErrAt (W : World) (g : Nat) : Prop := ∃ ev, W.cell? ⟨g, 0, none⟩ = some ev ∧ (ev = .nilIface ∨ ∃ te pe, ev = .iface te pe)
theorem IntAt.below {W0 w : World} {g : Nat} (h : IntAt W0 g) (hb : Below W0.heap.size W0 w) : IntAt w g := by
  obtain ⟨m, hm⟩ := h
  exact ⟨m, by rw [hb.cell (World.block_lt_of_cell? _ _ hm)]; exact hm⟩
theorem ErrAt.below {W0 w : World} {g : Nat} (h : ErrAt W0 g) (hb : Below W0.heap.size W0 w) : ErrAt w g := by
  obtain ⟨m, hm, hx⟩ := h
  exact ⟨m, by rw [hb.cell (World.block_lt_of_cell? _ _ hm)]; exact hm, hx⟩
/-- what a row lays, and what each world has -/
structure LaidAll (W : World) : Prop where
  tab : Laid W
  max : IntAt W 0
  esyn : ErrAt W 2
  eran : ErrAt W 3
theorem maxLen_of {W : World} (h : W.ShapedOpen Tryz.prog) : IntAt W 0 :=
  cell_of_shapedOpen_int (t := 3) (zero := #[.int .i64 0]) h (by decide +kernel) (by kernel_rfl) rfl (by kernel_rfl) (by kernel_rfl) Tryz.underlying3
noncomputable def indexST : List AV → List (List AV) → Option (AV × List (List AV))
  | [.str l, .str m], s => need (l.length < 4294967281) (some (.int .i64 (Lib.index l m), s))
  | _, _ => none
theorem indexS_ok {W0 : World} (hl : LaidAll W0) {xs : List AV} {s : List (List AV)} {r : AV} {s' : List (List AV)} (e : indexST xs s = some (r, s')) : ACalls Tryz.prog W0.heap.size W0 115 xs s r s' := by
  unfold indexST at e
  split at e
  · rename_i l m
    obtain ⟨hn, e⟩ := need_eq e
    simp only [Option.some.injEq, Prod.mk.injEq] at e
    obtain ⟨rfl, rfl⟩ := e
    refine ACalls_ext fun w vs hsz hW hr => ?_
    obtain ⟨u, v, rfl⟩ := two_args (vs := vs) hsz
    obtain ⟨μ, h0⟩ := hr 0 (.str l) rfl
    obtain ⟨μ', h1⟩ := hr 1 (.str m) rfl
    obtain ⟨a, rfl, rfl⟩ := rep_str (h0.resolve_right (by simp [isTup]))
    obtain ⟨b, rfl, rfl⟩ := rep_str (h1.resolve_right (by simp [isTup]))
    obtain ⟨k, hk⟩ := hl.max.below hW
    refine (Any.stringslite_Index lays_Lays_n219 a b k w (by simpa using hn) hk).mono ?_
    rintro e w' ⟨rfl, rfl⟩
    exact ⟨_, rfl, AI.Told.int _ _, Below.refl _ _⟩
  · cases e
theorem starErr : "*" ++ "errors.errorString" = "*errors.errorString" := by decide
theorem rowErr (u : TypeId) (h : Tryz.prog.typeName? 3 u = some "*errors.errorString") : u = 190 :=
  typeName_ptr_named (nm := "errors.errorString") (by rw [starErr]; kernel_rfl) (by kernel_rfl) (by decide) u (by rw [starErr]; exact h)
theorem laidMet_drop {P : Program} {w : World} (k : Nat) : ∀ {laid : List (String × DataW Unit)}, laidMet P laid w → laidMet P (laid.drop k) w := by
  induction k with
  | zero => intro laid h; exact h
  | succ k ih =>
    intro laid h
    cases laid with
    | nil => exact h
    | cons x r => exact ih h.tail
theorem errAt_of {n : String} {text : List UInt8} {r : List (String × DataW Unit)} {W : World} {g : Nat} (h : laidMet Tryz.prog ((n, .iface "*errors.errorString" (.ptr (.agg [.lit (.string text)]))) :: r) W)
    (hg : Tryz.prog.globalNamed n = some g) (ht : (Tryz.prog.globals[g]?).map (·.type) = some 102) : ErrAt W g := by
  obtain ⟨a0, s0, hv0, -, -, -⟩ := laid_sentinel h hg ht Tryz.underlying102 rowErr Tryz.underlying190 Tryz.underlying192 rfl rfl Tryz.underlying9 (by kernel_rfl) (by kernel_rfl)
  exact ⟨_, by have h0 := World.var?_cell hg hv0 0; simpa using h0, .inr ⟨_, _, rfl⟩⟩
noncomputable def atoiT : List AV → List (List AV) → Option (AV × List (List AV))
  | [.str l], s => need (l.length ≤ 281474976710656) (match Lib.atoiAll l with
    | .ok v => some (.tup [.int .i64 v, .nili], s)
    | .range => some (.tup [.int .i64 (Lib.atoiSat l), .ifx], s)
    | _ => some (.tup [.int .i64 0, .ifx], s))
  | _, _ => none
theorem atoi_ok {W0 : World} (hl : LaidAll W0) {xs : List AV} {s : List (List AV)} {r : AV} {s' : List (List AV)} (e : atoiT xs s = some (r, s')) : ACalls Tryz.prog W0.heap.size W0 97 xs s r s' := by
  unfold atoiT at e
  split at e
  · rename_i l
    obtain ⟨hn, e⟩ := need_eq e
    have key : ∀ r0, some (r0, s) = some (r, s') → (∀ (w : World) (a : ByteArray), a.data.toList = l → Below W0.heap.size W0 w → Calls Tryz.prog 97 #[.string a] w fun e w' => ∃ v, e = .returned v ∧ AI.Told v r0 ∧ Below w.heap.size w w') → ACalls Tryz.prog W0.heap.size W0 97 [.str l] s r s' := by
      intro r0 e0 hc
      simp only [Option.some.injEq, Prod.mk.injEq] at e0
      obtain ⟨rfl, rfl⟩ := e0
      refine ACalls_ext fun w vs hsz hW hr => ?_
      obtain ⟨v, rfl, _⟩ := one_arg (B := 0) (T0 := fun _ => True) (μ0 := gh0) (w0 := w) (N := 1) (μ := gh0) (lx := fun _ => none) (w := w) (x := .nilp) (s := []) hsz
      obtain ⟨μ, h0⟩ := hr 0 (.str l) rfl
      obtain ⟨a, rfl, ha⟩ := rep_str (h0.resolve_right (by simp [isTup]))
      exact hc w a ha hW
    rcases hq : Lib.atoiAll l with v | _ | _
    · skip
      rw [hq] at e
      refine key _ e fun w a ha hW => ?_
      subst ha
      refine (Any.strconv_Atoi_ok lays_LaysC_n172 a (by simp at hn; omega) v hq w).mono ?_
      rintro e w' ⟨rfl, hw⟩
      refine ⟨_, rfl, AI.Told.intNil _, ?_⟩
      rcases hw with rfl | ⟨t, rfl⟩
      · exact Below.refl _ _
      · exact Go.Joins.below_bytesWorld _ _ _ _ (Nat.le_refl _)
    · skip
      rw [hq] at e
      refine key _ e fun w a ha hW => ?_
      subst ha
      obtain ⟨ev, h1, h2⟩ := hl.esyn.below hW
      refine (Any.strconv_Atoi_syntax lays_LaysC_n172 a (by simpa using hn) hq ev w h1 h2).mono ?_
      rintro e w' ⟨N, rfl, _, _, hb⟩
      exact ⟨_, rfl, AI.Told.intErr _ _ _, hb⟩
    · skip
      rw [hq] at e
      refine key _ e fun w a ha hW => ?_
      subst ha
      obtain ⟨ev, h1, h2⟩ := hl.eran.below hW
      refine (Any.strconv_Atoi_range lays_LaysC_n172 a (by simpa using hn) hq ev w h1 h2).mono ?_
      rintro e w' ⟨N, rfl, _, _, hb⟩
      exact ⟨_, rfl, AI.Told.intErr _ _ _, hb⟩
  · cases e
noncomputable def replaceAllT : List AV → List (List AV) → Option (AV × List (List AV))
  | [.str l, .str o, .str n], s => need (l.length ≤ 4000000000 ∧ 1 ≤ o.length ∧ n.length ≤ 16384) (some (.str (Lib.replaceAll l o n), s))
  | _, _ => none
theorem three_args {vs : Array Value} (h : vs.size = 3) : ∃ u v w, vs = #[u, v, w] := by
  obtain ⟨l⟩ := vs
  match l, h with
  | [u, v, w], _ => exact ⟨u, v, w, rfl⟩
theorem replaceAll_ok {W0 : World} (hl : LaidAll W0) {xs : List AV} {s : List (List AV)} {r : AV} {s' : List (List AV)} (e : replaceAllT xs s = some (r, s')) : ACalls Tryz.prog W0.heap.size W0 58 xs s r s' := by
  unfold replaceAllT at e
  split at e
  · rename_i l o n
    obtain ⟨⟨hn, ho, hnn⟩, e⟩ := need_eq e
    simp only [Option.some.injEq, Prod.mk.injEq] at e
    obtain ⟨rfl, rfl⟩ := e
    refine ACalls_ext fun w vs hsz hW hr => ?_
    obtain ⟨u, v, x, rfl⟩ := three_args (vs := vs) hsz
    obtain ⟨μ, h0⟩ := hr 0 (.str l) rfl
    obtain ⟨μ', h1⟩ := hr 1 (.str o) rfl
    obtain ⟨μ'', h2⟩ := hr 2 (.str n) rfl
    obtain ⟨a, rfl, rfl⟩ := rep_str (h0.resolve_right (by simp [isTup]))
    obtain ⟨b, rfl, rfl⟩ := rep_str (h1.resolve_right (by simp [isTup]))
    obtain ⟨c, rfl, rfl⟩ := rep_str (h2.resolve_right (by simp [isTup]))
    obtain ⟨k, hk⟩ := hl.max.below hW
    have hcnt : Lib.countB a b ≤ a.size := Lib.countB_le b (by simpa using ho) a.size a (Nat.le_refl _)
    have hmul : Lib.countB a b * c.size ≤ 4000000000 * 16384 := Nat.mul_le_mul (by simp at hn; omega) (by simpa using hnn)
    refine (Any.strings_ReplaceAll lays_Lays_n155 lays_Builder_Extra a b c k w (by simp at hn; omega) hk (by simpa using ho) (by simp at hn; omega)).mono ?_
    rintro e w' ⟨rfl, hb⟩
    exact ⟨_, rfl, AI.Told.str _, hb⟩
  · cases e
noncomputable def repeatT : List AV → List (List AV) → Option (AV × List (List AV))
  | [.str l, .int .i64 n], s => need (0 ≤ n ∧ n ≤ 9223372036854775807 ∧ l.length * n.toNat ≤ 140737488355328) (some (.str (Lib.repeatL l n.toNat), s))
  | _, _ => none
theorem repeat_ok {B : Nat} {W0 : World} {xs : List AV} {s : List (List AV)} {r : AV} {s' : List (List AV)} (e : repeatT xs s = some (r, s')) : ACalls Tryz.prog B W0 93 xs s r s' := by
  unfold repeatT at e
  split at e
  · rename_i l n
    obtain ⟨⟨h1, h2, h3⟩, e⟩ := need_eq e
    simp only [Option.some.injEq, Prod.mk.injEq] at e
    obtain ⟨rfl, rfl⟩ := e
    obtain ⟨c, rfl⟩ := Int.eq_ofNat_of_zero_le h1
    refine ACalls_ext fun w vs hsz hW hr => ?_
    obtain ⟨u, v, rfl⟩ := two_args (vs := vs) hsz
    obtain ⟨μ, h0⟩ := hr 0 (.str l) rfl
    obtain ⟨μ', h1⟩ := hr 1 (.int .i64 c) rfl
    obtain ⟨a, rfl, rfl⟩ := rep_str (h0.resolve_right (by simp [isTup]))
    obtain rfl := rep_int (h1.resolve_right (by simp [isTup]))
    refine (Any.strings_Repeat lays_Lays_n105 lays_Builder_Extra a c w (by omega) (by simpa using h3)).mono ?_
    rintro e w' ⟨rfl, hb⟩
    exact ⟨_, rfl, by simpa using AI.Told.str (Lib.repeatL a.data.toList c), hb⟩
  · cases e
/-- parts that hang on no memory -/
theorem told_tup {vs : List Value} {cs : List AV} (hl : vs.length = cs.length) (h : ∀ (j : Nat) (c : AV), cs[j]? = some c → scal c = true ∧ ∀ (B : Nat) (μ : Gh) (w : World), Rep B μ w ((vs.toArray).getD j undef) c) : AI.Told (.tuple vs.toArray) (.tup cs) := by
  refine ⟨fun B μ w => ⟨.tup _ _ (by simpa using hl) fun j c hc => (h j c hc).2 B μ w, fun j c hc => ?_⟩, fun j => ?_, by simp⟩
  · have := (h j c hc).1
    cases c <;> first | trivial | (simp [scal] at this; done)
  · cases j with
    | none => rfl
    | some j =>
      simp only [ownV]
      cases hc : cs[j]? with
      | none => rfl
      | some c =>
        have := (h j c hc).1
        simp only [Option.bind_some]
        cases c <;> first | (simp [scal] at this; done) | (simp [exBlk]; done) | rfl
theorem rep_list (l : List UInt8) (B : Nat) (μ : Gh) (w : World) : Rep B μ w (.string ⟨l.toArray⟩) (.str l) := by
  have := Rep.str (B := B) (μ := μ) (w := w) ⟨l.toArray⟩; simpa using this
theorem told_ssb (a b : List UInt8) (c : Bool) : AI.Told (.tuple #[.string ⟨a.toArray⟩, .string ⟨b.toArray⟩, .bool c]) (.tup [.str a, .str b, .bool c]) :=
  told_tup (vs := [.string ⟨a.toArray⟩, .string ⟨b.toArray⟩, .bool c]) rfl fun j x hx => by
    match j, hx with
    | 0, hx => simp at hx; subst hx; exact ⟨rfl, rep_list a⟩
    | 1, hx => simp at hx; subst hx; exact ⟨rfl, rep_list b⟩
    | 2, hx => simp at hx; subst hx; exact ⟨rfl, fun _ _ _ => .bool _⟩
    | j + 3, hx => simp at hx
theorem told_sb (a : List UInt8) (c : Bool) : AI.Told (.tuple #[.string ⟨a.toArray⟩, .bool c]) (.tup [.str a, .bool c]) :=
  told_tup (vs := [.string ⟨a.toArray⟩, .bool c]) rfl fun j x hx => by
    match j, hx with
    | 0, hx => simp at hx; subst hx; exact ⟨rfl, rep_list a⟩
    | 1, hx => simp at hx; subst hx; exact ⟨rfl, fun _ _ _ => .bool _⟩
    | j + 2, hx => simp at hx
/-- a function of two texts, by a contract -/
theorem ACalls_two {B : Nat} {W0 : World} {f : FuncId} {l m : List UInt8} {s : List (List AV)} {r : AV}
    (h : ∀ (w : World) (a b : ByteArray), a.data.toList = l → b.data.toList = m → Below B W0 w → Calls Tryz.prog f #[.string a, .string b] w fun e w' => ∃ v, e = .returned v ∧ AI.Told v r ∧ Below w.heap.size w w') : ACalls Tryz.prog B W0 f [.str l, .str m] s r s := by
  refine ACalls_ext fun w vs hsz hW hr => ?_
  obtain ⟨u, v, rfl⟩ := two_args (vs := vs) hsz
  obtain ⟨μ, h0⟩ := hr 0 (.str l) rfl
  obtain ⟨μ', h1⟩ := hr 1 (.str m) rfl
  obtain ⟨a, rfl, ha⟩ := rep_str (h0.resolve_right (by simp [isTup]))
  obtain ⟨b, rfl, hb⟩ := rep_str (h1.resolve_right (by simp [isTup]))
  exact h w a b ha hb hW
theorem bsz (m : List UInt8) : (⟨m.toArray⟩ : ByteArray).size = m.length := by show m.toArray.size = m.length; simp
theorem blw (w : World) (n : Nat) : Below w.heap.size w (w.drewN n) := ⟨rfl, rfl, rfl, Nat.le_refl _, fun _ _ => rfl⟩
noncomputable def cutT : List AV → List (List AV) → Option (AV × List (List AV))
  | [.str l, .str m], s => need (l.length < 4294967281) (some (.tup [.str (Lib.cut l m).1, .str (Lib.cut l m).2.1, .bool (Lib.cut l m).2.2], s))
  | _, _ => none
theorem cut_ok {W0 : World} (hl : LaidAll W0) {xs : List AV} {s : List (List AV)} {r : AV} {s' : List (List AV)} (e : cutT xs s = some (r, s')) : ACalls Tryz.prog W0.heap.size W0 55 xs s r s' := by
  unfold cutT at e
  split at e
  · rename_i l m
    obtain ⟨hn, e⟩ := need_eq e
    simp only [Option.some.injEq, Prod.mk.injEq] at e
    obtain ⟨rfl, rfl⟩ := e
    refine ACalls_two fun w a b ha hb hW => ?_
    subst ha hb
    obtain ⟨k, hk⟩ := hl.max.below hW
    refine (Any.strings_Cut lays_Lays_n145 a b k w (by simpa using hn) hk).mono ?_
    rintro e w' ⟨rfl, n, rfl⟩
    exact ⟨_, rfl, told_ssb _ _ _, blw w n⟩
  · cases e
noncomputable def splitT : List AV → List (List AV) → Option (AV × List (List AV))
  | [.str l, .str m], s => need (l.length < 4294967281 ∧ 1 ≤ m.length) (some (.sl (.ex 9 1) ((Lib.split l m).map .str), s))
  | _, _ => none
theorem split_ok {W0 : World} (hl : LaidAll W0) {xs : List AV} {s : List (List AV)} {r : AV} {s' : List (List AV)} (e : splitT xs s = some (r, s')) : ACalls Tryz.prog W0.heap.size W0 56 xs s r s' := by
  unfold splitT at e
  split at e
  · rename_i l m
    obtain ⟨⟨hn, h1⟩, e⟩ := need_eq e
    simp only [Option.some.injEq, Prod.mk.injEq] at e
    obtain ⟨rfl, rfl⟩ := e
    have hlen : (Lib.split l m).length = Lib.countB ⟨l.toArray⟩ ⟨m.toArray⟩ + 1 := by
      have e1 := Lib.splitB_all ⟨m.toArray⟩ (by rw [bsz]; exact h1) 0 _ ⟨l.toArray⟩ rfl
      have e2 := Lib.splitB_data ⟨m.toArray⟩ 0 (Lib.countB ⟨l.toArray⟩ ⟨m.toArray⟩) ⟨l.toArray⟩
      rw [← e1, ← List.length_map (f := fun x : ByteArray => x.data.toList), e2]
      rfl
    have hle := Lib.countB_le ⟨m.toArray⟩ (by rw [bsz]; exact h1) l.length ⟨l.toArray⟩ (by rw [bsz]; omega)
    refine ACalls_strs (by rw [bsz] at hle; rw [hlen]; unfold maxLen; omega) fun w vs hsz hW hr => ?_
    obtain ⟨u, v, rfl⟩ := two_args (vs := vs) hsz
    obtain ⟨μ, h0⟩ := hr 0 (.str l) rfl
    obtain ⟨μ', h1'⟩ := hr 1 (.str m) rfl
    obtain ⟨a, rfl, rfl⟩ := rep_str (h0.resolve_right (by simp [isTup]))
    obtain ⟨b, rfl, rfl⟩ := rep_str (h1'.resolve_right (by simp [isTup]))
    obtain ⟨k, hk⟩ := hl.max.below hW
    refine (Any.strings_Split lays_Lays_n146 (by kernel_rfl) a b k w (by simpa using hn) hk (by simpa using h1)).mono ?_
    rintro e w' ⟨rfl, rfl⟩
    have e2 := Lib.splitB_data b 0 (Lib.countB a b) a
    have e3 : Lib.split a.data.toList b.data.toList = (Lib.splitB b 0 (Lib.countB a b) a).map (·.data.toList) := by rw [e2]; rfl
    refine ⟨by rw [hlen], ?_⟩
    congr 2
    rw [e3, List.map_map]
    apply congrArg
    apply List.map_congr_left
    intro x _
    rfl
  · cases e
noncomputable def hasPrefixT : List AV → List (List AV) → Option (AV × List (List AV))
  | [.str l, .str m], s => some (.bool (Lib.hasPrefix l m), s)
  | _, _ => none
theorem hasPrefix_ok {W0 : World} {xs : List AV} {s : List (List AV)} {r : AV} {s' : List (List AV)} (e : hasPrefixT xs s = some (r, s')) : ACalls Tryz.prog W0.heap.size W0 112 xs s r s' := by
  unfold hasPrefixT at e
  split at e
  · simp only [Option.some.injEq, Prod.mk.injEq] at e
    obtain ⟨rfl, rfl⟩ := e
    refine ACalls_two fun w a b ha hb hW => ?_
    subst ha hb
    refine (Any.strings_HasPrefix lays_Lays_n99 a b w).mono ?_
    rintro e w' ⟨rfl, rfl⟩
    exact ⟨_, rfl, AI.Told.bool _, Below.refl _ _⟩
  · cases e
def strOf : AV → Option (List UInt8)
  | .str l => some l
  | _ => none
def strsOf : List AV → Option (List (List UInt8))
  | [] => some []
  | x :: r => bnd (strOf x) fun a => bnd (strsOf r) fun l => some (a :: l)
@[simp] theorem strsOf_map (l : List (List UInt8)) : strsOf (l.map .str) = some l := by
  induction l with
  | nil => rfl
  | cons x r ih => simp only [List.map_cons, strsOf, strOf, bnd_some, ih]
theorem strsOf_eq {xs : List AV} : ∀ {l : List (List UInt8)}, strsOf xs = some l → xs = l.map .str := by
  induction xs with
  | nil => intro l h; simp only [strsOf, Option.some.injEq] at h; subst h; rfl
  | cons x r ih =>
    intro l h
    simp only [strsOf] at h
    obtain ⟨a, ha, h⟩ := bnd_eq h
    obtain ⟨b, hb, h⟩ := bnd_eq h
    simp only [Option.some.injEq] at h
    subst h
    cases x with
    | str y => simp only [strOf, Option.some.injEq] at ha; subst ha; rw [ih hb]; rfl
    | _ => cases ha
noncomputable def joinT : List AV → List (List AV) → Option (AV × List (List AV))
  | [.sl .sh xs, .str m], s => bnd (strsOf xs) fun ls => need (ls.length ≤ 140737488355328 ∧ (Lib.join ls m).length ≤ 140737488355328) (some (.str (Lib.join ls m), s))
  | _, _ => none
theorem join_ok {W0 : World} {xs : List AV} {s : List (List AV)} {r : AV} {s' : List (List AV)} (e : joinT xs s = some (r, s')) : ACalls Tryz.prog W0.heap.size W0 59 xs s r s' := by
  unfold joinT at e
  split at e
  · rename_i xs m
    obtain ⟨ls, hls, e⟩ := bnd_eq e
    obtain ⟨⟨hn1, hn2⟩, e⟩ := need_eq e
    simp only [Option.some.injEq, Prod.mk.injEq] at e
    obtain ⟨rfl, rfl⟩ := e
    obtain rfl := strsOf_eq hls
    refine ACalls_ext fun w vs hsz hW hr => ?_
    obtain ⟨u, v, rfl⟩ := two_args (vs := vs) hsz
    obtain ⟨μ, h0⟩ := hr 0 (.sl .sh (ls.map .str)) rfl
    obtain ⟨μ', h1⟩ := hr 1 (.str m) rfl
    obtain ⟨b, rfl, rfl⟩ := rep_str (h1.resolve_right (by simp [isTup]))
    have h0 := h0.resolve_right (by simp [isTup])
    have hu : (#[u, Value.string b] : Array Value).getD 0 undef = u := rfl
    rw [hu] at h0
    clear hu hr hsz
    generalize hxs : ls.map AV.str = xs at h0
    cases h0 with
    | slnil =>
      have : ls = [] := by simpa using hxs
      subst this
      refine (Any.strings_Join_none lays_Lays_n156 lays_Builder_Extra none 0 b w).mono ?_
      rintro e w' ⟨rfl, rfl⟩
      exact ⟨_, rfl, by simpa [Lib.join] using AI.Told.str [], Below.refl _ _⟩
    | sl0 a cap =>
      have : ls = [] := by simpa using hxs
      subst this
      refine (Any.strings_Join_none lays_Lays_n156 lays_Builder_Extra (some a) cap b w).mono ?_
      rintro e w' ⟨rfl, rfl⟩
      exact ⟨_, rfl, by simpa [Lib.join] using AI.Told.str [], Below.refl _ _⟩
    | sl blk off cap sz _ _ f ho hsz hc hm hu hcell hrep =>
      have hlen : xs.length = ls.length := by rw [← hxs, List.length_map]
      by_cases hne : ls = []
      · subst hne
        have : xs = [] := by simpa using hxs.symm
        subst this
        refine (Any.strings_Join_none lays_Lays_n156 lays_Builder_Extra _ cap b w).mono ?_
        rintro e w' ⟨rfl, rfl⟩
        exact ⟨_, rfl, by simpa [Lib.join] using AI.Told.str [], Below.refl _ _⟩
      have hs1 : sz = 1 := by
        cases hl : ls with
        | nil => exact absurd hl hne
        | cons x r =>
          have := (hu (.str x) (by rw [← hxs, hl]; simp)).1
          simpa [AV.cells] using this.symm
      subst hs1
      have hcells : ∀ (j : Nat) (x : List UInt8), ls[j]? = some x → w.cell? ⟨blk, off + j, none⟩ = some (.string ⟨x.toArray⟩) := by
        intro j x hx
        have hj : j < ls.length := (List.getElem?_eq_some_iff.1 hx).1
        have h1 := (hcell j (by omega)).1
        have h2 := hrep j 0 (.str x) (by rw [← hxs, List.getElem?_map, hx]; rfl)
        rw [Nat.mul_one, Nat.add_zero] at h2
        obtain ⟨a, ha, hax⟩ := rep_str h2
        rw [h1, ha, ← hax]
      have hblk : blk < w.heap.size := by
        have h0 : 0 < xs.length * 1 := by rw [hlen, Nat.mul_one]; exact List.length_pos_iff.2 hne
        exact World.block_lt_of_cell? w _ (hcell 0 h0).1
      clear e hls h0 hne h1
      rcases ls with _ | ⟨x, _ | ⟨y, r⟩⟩
      · have hx1 : xs.length = 0 := by rw [hlen]; rfl
        rw [hx1]
        refine (Any.strings_Join_none lays_Lays_n156 lays_Builder_Extra _ cap b w).mono ?_
        rintro e w' ⟨rfl, rfl⟩
        exact ⟨_, rfl, by simpa [Lib.join] using AI.Told.str [], Below.refl _ _⟩
      · have := hcells 0 x rfl
        have hx1 : xs.length = 1 := by rw [hlen]; rfl
        rw [hx1]
        refine (Any.strings_Join_one lays_Lays_n156 lays_Builder_Extra blk off cap ⟨x.toArray⟩ b w this).mono ?_
        rintro e w' ⟨rfl, rfl⟩
        exact ⟨_, rfl, by rw [Lib.join_one]; exact AI.Told.str x, Below.refl _ _⟩
      · have e1 : ((x :: y :: r).map fun l : List UInt8 => (⟨l.toArray⟩ : ByteArray)).map (·.data.toList) = x :: y :: r := by
          rw [List.map_map]; conv => rhs; rw [← List.map_id (x :: y :: r)]
          apply List.map_congr_left; intro z _; simp
        have hx1 : xs.length = ((x :: y :: r).map fun l : List UInt8 => (⟨l.toArray⟩ : ByteArray)).length := by rw [hlen]; simp
        rw [hx1]
        refine (Any.strings_Join_many lays_Lays_n156 lays_Builder_Extra blk off cap ((x :: y :: r).map fun l : List UInt8 => (⟨l.toArray⟩ : ByteArray)) b w ?_ hblk (by simp) (by rw [List.length_map]; exact hn1) (by rw [← hx1]; exact hc) (by rw [e1]; exact hn2)).mono ?_
        · intro j z hz
          rw [List.getElem?_map] at hz
          cases hq : (x :: y :: r)[j]? with
          | none => rw [hq] at hz; cases hz
          | some l => rw [hq] at hz; injection hz with hz; subst hz; exact hcells j l hq
        · rintro e w' ⟨rfl, hb⟩
          refine ⟨_, rfl, ?_, hb⟩
          rw [e1]; exact AI.Told.str _
  · cases e
end Go.Proofs.Tryz.Ai
end
section
namespace Go.Proofs.Tryz.Ai
open Go Go.AI Go.Proofs
@[simp] theorem size2 : sizeA Tryz.prog 2 = some 1 := by kernel_rfl
@[simp] theorem bytes2 : bytesA Tryz.prog 2 = some 8 := by kernel_rfl
@[simp] theorem agg2 : isAggA Tryz.prog 2 = some false := by kernel_rfl
@[simp] theorem elem2 : elemA Tryz.prog 2 = none := by kernel_rfl
@[simp] theorem zero2 : zeroA Tryz.prog 2 = some (.int .i64 0) := by kernel_rfl
@[simp] theorem und2 : Tryz.prog.underlying 2 = some (.int .i64) := by kernel_rfl
@[simp] theorem size3 : sizeA Tryz.prog 3 = some 1 := by kernel_rfl
@[simp] theorem bytes3 : bytesA Tryz.prog 3 = some 8 := by kernel_rfl
@[simp] theorem agg3 : isAggA Tryz.prog 3 = some false := by kernel_rfl
@[simp] theorem elem3 : elemA Tryz.prog 3 = none := by kernel_rfl
@[simp] theorem zero3 : zeroA Tryz.prog 3 = some (.int .i64 0) := by kernel_rfl
@[simp] theorem und3 : Tryz.prog.underlying 3 = some (.int .i64) := by kernel_rfl
@[simp] theorem size4 : sizeA Tryz.prog 4 = some 1 := by kernel_rfl
@[simp] theorem bytes4 : bytesA Tryz.prog 4 = some 1 := by kernel_rfl
@[simp] theorem agg4 : isAggA Tryz.prog 4 = some false := by kernel_rfl
@[simp] theorem elem4 : elemA Tryz.prog 4 = none := by kernel_rfl
@[simp] theorem zero4 : zeroA Tryz.prog 4 = some (.bool false) := by kernel_rfl
@[simp] theorem und4 : Tryz.prog.underlying 4 = some .bool := by kernel_rfl
@[simp] theorem size5 : sizeA Tryz.prog 5 = some 1 := by kernel_rfl
@[simp] theorem bytes5 : bytesA Tryz.prog 5 = some 1 := by kernel_rfl
@[simp] theorem agg5 : isAggA Tryz.prog 5 = some false := by kernel_rfl
@[simp] theorem elem5 : elemA Tryz.prog 5 = none := by kernel_rfl
@[simp] theorem zero5 : zeroA Tryz.prog 5 = some (.int .u8 0) := by kernel_rfl
@[simp] theorem und5 : Tryz.prog.underlying 5 = some (.int .u8) := by kernel_rfl
@[simp] theorem size9 : sizeA Tryz.prog 9 = some 1 := by kernel_rfl
@[simp] theorem bytes9 : bytesA Tryz.prog 9 = some 16 := by kernel_rfl
@[simp] theorem agg9 : isAggA Tryz.prog 9 = some false := by kernel_rfl
@[simp] theorem elem9 : elemA Tryz.prog 9 = none := by kernel_rfl
@[simp] theorem zero9 : zeroA Tryz.prog 9 = some (.str []) := by kernel_rfl
@[simp] theorem und9 : Tryz.prog.underlying 9 = some .string := by kernel_rfl
@[simp] theorem size20 : sizeA Tryz.prog 20 = some 1 := by kernel_rfl
@[simp] theorem bytes20 : bytesA Tryz.prog 20 = some 16 := by kernel_rfl
@[simp] theorem agg20 : isAggA Tryz.prog 20 = some false := by kernel_rfl
@[simp] theorem elem20 : elemA Tryz.prog 20 = none := by kernel_rfl
@[simp] theorem zero20 : zeroA Tryz.prog 20 = some .nili := by kernel_rfl
@[simp] theorem size21 : sizeA Tryz.prog 21 = some 1 := by kernel_rfl
@[simp] theorem bytes21 : bytesA Tryz.prog 21 = some 4 := by kernel_rfl
@[simp] theorem agg21 : isAggA Tryz.prog 21 = some false := by kernel_rfl
@[simp] theorem elem21 : elemA Tryz.prog 21 = none := by kernel_rfl
@[simp] theorem zero21 : zeroA Tryz.prog 21 = some (.int .i32 0) := by kernel_rfl
@[simp] theorem und21 : Tryz.prog.underlying 21 = some (.int .i32) := by kernel_rfl
@[simp] theorem size22 : sizeA Tryz.prog 22 = some 1 := by kernel_rfl
@[simp] theorem bytes22 : bytesA Tryz.prog 22 = some 24 := by kernel_rfl
@[simp] theorem agg22 : isAggA Tryz.prog 22 = some false := by kernel_rfl
@[simp] theorem elem22 : elemA Tryz.prog 22 = some 35 := by kernel_rfl
@[simp] theorem zero22 : zeroA Tryz.prog 22 = some (.sl .nil []) := by kernel_rfl
@[simp] theorem und22 : Tryz.prog.underlying 22 = some (.slice 35) := by kernel_rfl
@[simp] theorem size25 : sizeA Tryz.prog 25 = some 1 := by kernel_rfl
@[simp] theorem bytes25 : bytesA Tryz.prog 25 = some 8 := by kernel_rfl
@[simp] theorem agg25 : isAggA Tryz.prog 25 = some false := by kernel_rfl
@[simp] theorem elem25 : elemA Tryz.prog 25 = none := by kernel_rfl
@[simp] theorem zero25 : zeroA Tryz.prog 25 = some .nilp := by kernel_rfl
@[simp] theorem size31 : sizeA Tryz.prog 31 = some 4 := by kernel_rfl
@[simp] theorem bytes31 : bytesA Tryz.prog 31 = some 32 := by kernel_rfl
@[simp] theorem agg31 : isAggA Tryz.prog 31 = some true := by kernel_rfl
@[simp] theorem elem31 : elemA Tryz.prog 31 = none := by kernel_rfl
@[simp] theorem zero31 : zeroA Tryz.prog 31 = some (.agg [(.int .i64 0), (.int .i64 0), (.int .i64 0), (.int .i64 0)]) := by kernel_rfl
@[simp] theorem bpl31 : buildPl Tryz.prog 31 = some (fun i => [(0, 1), (1, 1), (2, 1), (3, 1)][i]?) := by kernel_rfl
@[simp] theorem size32 : sizeA Tryz.prog 32 = some 1 := by kernel_rfl
@[simp] theorem bytes32 : bytesA Tryz.prog 32 = some 8 := by kernel_rfl
@[simp] theorem agg32 : isAggA Tryz.prog 32 = some false := by kernel_rfl
@[simp] theorem elem32 : elemA Tryz.prog 32 = none := by kernel_rfl
@[simp] theorem zero32 : zeroA Tryz.prog 32 = some (.int .i64 0) := by kernel_rfl
@[simp] theorem und32 : Tryz.prog.underlying 32 = some (.int .i64) := by kernel_rfl
@[simp] theorem size35 : sizeA Tryz.prog 35 = some 1 := by kernel_rfl
@[simp] theorem bytes35 : bytesA Tryz.prog 35 = some 24 := by kernel_rfl
@[simp] theorem agg35 : isAggA Tryz.prog 35 = some false := by kernel_rfl
@[simp] theorem elem35 : elemA Tryz.prog 35 = some 5 := by kernel_rfl
@[simp] theorem zero35 : zeroA Tryz.prog 35 = some (.sl .nil []) := by kernel_rfl
@[simp] theorem und35 : Tryz.prog.underlying 35 = some (.slice 5) := by kernel_rfl
@[simp] theorem size37 : sizeA Tryz.prog 37 = some 1 := by kernel_rfl
@[simp] theorem bytes37 : bytesA Tryz.prog 37 = some 8 := by kernel_rfl
@[simp] theorem agg37 : isAggA Tryz.prog 37 = some false := by kernel_rfl
@[simp] theorem elem37 : elemA Tryz.prog 37 = none := by kernel_rfl
@[simp] theorem zero37 : zeroA Tryz.prog 37 = some .nilf := by kernel_rfl
@[simp] theorem size46 : sizeA Tryz.prog 46 = some 4 := by kernel_rfl
@[simp] theorem bytes46 : bytesA Tryz.prog 46 = some 32 := by kernel_rfl
@[simp] theorem agg46 : isAggA Tryz.prog 46 = some true := by kernel_rfl
@[simp] theorem elem46 : elemA Tryz.prog 46 = none := by kernel_rfl
@[simp] theorem zero46 : zeroA Tryz.prog 46 = some (.agg [(.int .i64 0), (.int .i64 0), (.int .i64 0), (.int .i64 0)]) := by kernel_rfl
@[simp] theorem bpl46 : buildPl Tryz.prog 46 = some (fun i => [(0, 1), (1, 1), (2, 1), (3, 1)][i]?) := by kernel_rfl
@[simp] theorem size56 : sizeA Tryz.prog 56 = some 1 := by kernel_rfl
@[simp] theorem bytes56 : bytesA Tryz.prog 56 = some 24 := by kernel_rfl
@[simp] theorem agg56 : isAggA Tryz.prog 56 = some false := by kernel_rfl
@[simp] theorem elem56 : elemA Tryz.prog 56 = some 31 := by kernel_rfl
@[simp] theorem zero56 : zeroA Tryz.prog 56 = some (.sl .nil []) := by kernel_rfl
@[simp] theorem und56 : Tryz.prog.underlying 56 = some (.slice 31) := by kernel_rfl
@[simp] theorem size59 : sizeA Tryz.prog 59 = some 1 := by kernel_rfl
@[simp] theorem bytes59 : bytesA Tryz.prog 59 = some 24 := by kernel_rfl
@[simp] theorem agg59 : isAggA Tryz.prog 59 = some false := by kernel_rfl
@[simp] theorem elem59 : elemA Tryz.prog 59 = some 46 := by kernel_rfl
@[simp] theorem zero59 : zeroA Tryz.prog 59 = some (.sl .nil []) := by kernel_rfl
@[simp] theorem und59 : Tryz.prog.underlying 59 = some (.slice 46) := by kernel_rfl
@[simp] theorem size78 : sizeA Tryz.prog 78 = some 1 := by kernel_rfl
@[simp] theorem bytes78 : bytesA Tryz.prog 78 = some 24 := by kernel_rfl
@[simp] theorem agg78 : isAggA Tryz.prog 78 = some false := by kernel_rfl
@[simp] theorem elem78 : elemA Tryz.prog 78 = some 22 := by kernel_rfl
@[simp] theorem zero78 : zeroA Tryz.prog 78 = some (.sl .nil []) := by kernel_rfl
@[simp] theorem und78 : Tryz.prog.underlying 78 = some (.slice 22) := by kernel_rfl
@[simp] theorem size80 : sizeA Tryz.prog 80 = some 1 := by kernel_rfl
@[simp] theorem bytes80 : bytesA Tryz.prog 80 = some 24 := by kernel_rfl
@[simp] theorem agg80 : isAggA Tryz.prog 80 = some true := by kernel_rfl
@[simp] theorem elem80 : elemA Tryz.prog 80 = none := by kernel_rfl
@[simp] theorem zero80 : zeroA Tryz.prog 80 = some (.agg [(.sl .nil [])]) := by kernel_rfl
@[simp] theorem bpl80 : buildPl Tryz.prog 80 = some (fun i => [(0, 1)][i]?) := by kernel_rfl
@[simp] theorem size88 : sizeA Tryz.prog 88 = some 1 := by kernel_rfl
@[simp] theorem bytes88 : bytesA Tryz.prog 88 = some 24 := by kernel_rfl
@[simp] theorem agg88 : isAggA Tryz.prog 88 = some false := by kernel_rfl
@[simp] theorem elem88 : elemA Tryz.prog 88 = some 9 := by kernel_rfl
@[simp] theorem zero88 : zeroA Tryz.prog 88 = some (.sl .nil []) := by kernel_rfl
@[simp] theorem und88 : Tryz.prog.underlying 88 = some (.slice 9) := by kernel_rfl
@[simp] theorem size98 : sizeA Tryz.prog 98 = some 1 := by kernel_rfl
@[simp] theorem bytes98 : bytesA Tryz.prog 98 = some 8 := by kernel_rfl
@[simp] theorem agg98 : isAggA Tryz.prog 98 = some false := by kernel_rfl
@[simp] theorem elem98 : elemA Tryz.prog 98 = none := by kernel_rfl
@[simp] theorem zero98 : zeroA Tryz.prog 98 = some .nilp := by kernel_rfl
@[simp] theorem size100 : sizeA Tryz.prog 100 = some 2 := by kernel_rfl
@[simp] theorem bytes100 : bytesA Tryz.prog 100 = some 32 := by kernel_rfl
@[simp] theorem agg100 : isAggA Tryz.prog 100 = some true := by kernel_rfl
@[simp] theorem elem100 : elemA Tryz.prog 100 = none := by kernel_rfl
@[simp] theorem zero100 : zeroA Tryz.prog 100 = some (.agg [.nilp, (.sl .nil [])]) := by kernel_rfl
@[simp] theorem bpl100 : buildPl Tryz.prog 100 = some (fun i => [(0, 1), (1, 1)][i]?) := by kernel_rfl
@[simp] theorem size102 : sizeA Tryz.prog 102 = some 1 := by kernel_rfl
@[simp] theorem bytes102 : bytesA Tryz.prog 102 = some 16 := by kernel_rfl
@[simp] theorem agg102 : isAggA Tryz.prog 102 = some false := by kernel_rfl
@[simp] theorem elem102 : elemA Tryz.prog 102 = none := by kernel_rfl
@[simp] theorem zero102 : zeroA Tryz.prog 102 = some .nili := by kernel_rfl
@[simp] theorem size110 : sizeA Tryz.prog 110 = some 1 := by kernel_rfl
@[simp] theorem bytes110 : bytesA Tryz.prog 110 = some 24 := by kernel_rfl
@[simp] theorem agg110 : isAggA Tryz.prog 110 = some false := by kernel_rfl
@[simp] theorem elem110 : elemA Tryz.prog 110 = some 113 := by kernel_rfl
@[simp] theorem zero110 : zeroA Tryz.prog 110 = some (.sl .nil []) := by kernel_rfl
@[simp] theorem und110 : Tryz.prog.underlying 110 = some (.slice 113) := by kernel_rfl
@[simp] theorem size113 : sizeA Tryz.prog 113 = some 2 := by kernel_rfl
@[simp] theorem bytes113 : bytesA Tryz.prog 113 = some 16 := by kernel_rfl
@[simp] theorem agg113 : isAggA Tryz.prog 113 = some true := by kernel_rfl
@[simp] theorem elem113 : elemA Tryz.prog 113 = none := by kernel_rfl
@[simp] theorem zero113 : zeroA Tryz.prog 113 = some (.agg [(.int .i64 0), (.int .i64 0)]) := by kernel_rfl
@[simp] theorem bpl113 : buildPl Tryz.prog 113 = some (fun i => [(0, 1), (1, 1)][i]?) := by kernel_rfl
@[simp] theorem size122 : sizeA Tryz.prog 122 = some 1 := by kernel_rfl
@[simp] theorem bytes122 : bytesA Tryz.prog 122 = some 8 := by kernel_rfl
@[simp] theorem agg122 : isAggA Tryz.prog 122 = some false := by kernel_rfl
@[simp] theorem elem122 : elemA Tryz.prog 122 = none := by kernel_rfl
@[simp] theorem zero122 : zeroA Tryz.prog 122 = some .nilf := by kernel_rfl
@[simp] theorem size129 : sizeA Tryz.prog 129 = some 1 := by kernel_rfl
@[simp] theorem bytes129 : bytesA Tryz.prog 129 = some 8 := by kernel_rfl
@[simp] theorem agg129 : isAggA Tryz.prog 129 = some false := by kernel_rfl
@[simp] theorem elem129 : elemA Tryz.prog 129 = none := by kernel_rfl
@[simp] theorem zero129 : zeroA Tryz.prog 129 = some .nilp := by kernel_rfl
@[simp] theorem size130 : sizeA Tryz.prog 130 = some 1 := by kernel_rfl
@[simp] theorem bytes130 : bytesA Tryz.prog 130 = some 4 := by kernel_rfl
@[simp] theorem agg130 : isAggA Tryz.prog 130 = some false := by kernel_rfl
@[simp] theorem elem130 : elemA Tryz.prog 130 = none := by kernel_rfl
@[simp] theorem zero130 : zeroA Tryz.prog 130 = some (.int .u32 0) := by kernel_rfl
@[simp] theorem und130 : Tryz.prog.underlying 130 = some (.int .u32) := by kernel_rfl
@[simp] theorem size131 : sizeA Tryz.prog 131 = some 64 := by kernel_rfl
@[simp] theorem bytes131 : bytesA Tryz.prog 131 = some 256 := by kernel_rfl
@[simp] theorem agg131 : isAggA Tryz.prog 131 = some true := by kernel_rfl
@[simp] theorem elem131 : elemA Tryz.prog 131 = none := by kernel_rfl
@[simp] theorem zero131 : zeroA Tryz.prog 131 = some (.agg (List.replicate 64 (.int .u32 0))) := by kernel_rfl
@[simp] theorem bpl131 : buildPl Tryz.prog 131 = some (fun i => some (i * 1, 1)) := by kernel_rfl
@[simp] theorem und131 : Tryz.prog.underlying 131 = some (.array 64 130) := by kernel_rfl
@[simp] theorem size134 : sizeA Tryz.prog 134 = some 8 := by kernel_rfl
@[simp] theorem bytes134 : bytesA Tryz.prog 134 = some 32 := by kernel_rfl
@[simp] theorem agg134 : isAggA Tryz.prog 134 = some true := by kernel_rfl
@[simp] theorem elem134 : elemA Tryz.prog 134 = none := by kernel_rfl
@[simp] theorem zero134 : zeroA Tryz.prog 134 = some (.agg [(.int .u32 0), (.int .u32 0), (.int .u32 0), (.int .u32 0), (.int .u32 0), (.int .u32 0), (.int .u32 0), (.int .u32 0)]) := by kernel_rfl
@[simp] theorem bpl134 : buildPl Tryz.prog 134 = some (fun i => some (i * 1, 1)) := by kernel_rfl
@[simp] theorem und134 : Tryz.prog.underlying 134 = some (.array 8 130) := by kernel_rfl
@[simp] theorem size137 : sizeA Tryz.prog 137 = some 1 := by kernel_rfl
@[simp] theorem bytes137 : bytesA Tryz.prog 137 = some 8 := by kernel_rfl
@[simp] theorem agg137 : isAggA Tryz.prog 137 = some false := by kernel_rfl
@[simp] theorem elem137 : elemA Tryz.prog 137 = none := by kernel_rfl
@[simp] theorem zero137 : zeroA Tryz.prog 137 = some .nilp := by kernel_rfl
@[simp] theorem size138 : sizeA Tryz.prog 138 = some 1 := by kernel_rfl
@[simp] theorem bytes138 : bytesA Tryz.prog 138 = some 8 := by kernel_rfl
@[simp] theorem agg138 : isAggA Tryz.prog 138 = some false := by kernel_rfl
@[simp] theorem elem138 : elemA Tryz.prog 138 = none := by kernel_rfl
@[simp] theorem zero138 : zeroA Tryz.prog 138 = some (.int .u64 0) := by kernel_rfl
@[simp] theorem und138 : Tryz.prog.underlying 138 = some (.int .u64) := by kernel_rfl
@[simp] theorem size139 : sizeA Tryz.prog 139 = some 1 := by kernel_rfl
@[simp] theorem bytes139 : bytesA Tryz.prog 139 = some 24 := by kernel_rfl
@[simp] theorem agg139 : isAggA Tryz.prog 139 = some false := by kernel_rfl
@[simp] theorem elem139 : elemA Tryz.prog 139 = some 130 := by kernel_rfl
@[simp] theorem zero139 : zeroA Tryz.prog 139 = some (.sl .nil []) := by kernel_rfl
@[simp] theorem und139 : Tryz.prog.underlying 139 = some (.slice 130) := by kernel_rfl
@[simp] theorem size141 : sizeA Tryz.prog 141 = some 1 := by kernel_rfl
@[simp] theorem bytes141 : bytesA Tryz.prog 141 = some 8 := by kernel_rfl
@[simp] theorem agg141 : isAggA Tryz.prog 141 = some false := by kernel_rfl
@[simp] theorem elem141 : elemA Tryz.prog 141 = none := by kernel_rfl
@[simp] theorem zero141 : zeroA Tryz.prog 141 = some (.int .u64 0) := by kernel_rfl
@[simp] theorem und141 : Tryz.prog.underlying 141 = some (.int .u64) := by kernel_rfl
@[simp] theorem size152 : sizeA Tryz.prog 152 = some 1 := by kernel_rfl
@[simp] theorem bytes152 : bytesA Tryz.prog 152 = some 8 := by kernel_rfl
@[simp] theorem agg152 : isAggA Tryz.prog 152 = some false := by kernel_rfl
@[simp] theorem elem152 : elemA Tryz.prog 152 = none := by kernel_rfl
@[simp] theorem zero152 : zeroA Tryz.prog 152 = some .nilp := by kernel_rfl
@[simp] theorem size159 : sizeA Tryz.prog 159 = some 24 := by kernel_rfl
@[simp] theorem bytes159 : bytesA Tryz.prog 159 = some 24 := by kernel_rfl
@[simp] theorem agg159 : isAggA Tryz.prog 159 = some true := by kernel_rfl
@[simp] theorem elem159 : elemA Tryz.prog 159 = none := by kernel_rfl
@[simp] theorem zero159 : zeroA Tryz.prog 159 = some (.agg (List.replicate 24 (.int .u8 0))) := by kernel_rfl
@[simp] theorem bpl159 : buildPl Tryz.prog 159 = some (fun i => some (i * 1, 1)) := by kernel_rfl
@[simp] theorem und159 : Tryz.prog.underlying 159 = some (.array 24 5) := by kernel_rfl
@[simp] theorem size165 : sizeA Tryz.prog 165 = some 1 := by kernel_rfl
@[simp] theorem bytes165 : bytesA Tryz.prog 165 = some 8 := by kernel_rfl
@[simp] theorem agg165 : isAggA Tryz.prog 165 = some false := by kernel_rfl
@[simp] theorem elem165 : elemA Tryz.prog 165 = none := by kernel_rfl
@[simp] theorem zero165 : zeroA Tryz.prog 165 = some (.int .i64 0) := by kernel_rfl
@[simp] theorem und165 : Tryz.prog.underlying 165 = some (.int .i64) := by kernel_rfl
@[simp] theorem size168 : sizeA Tryz.prog 168 = some 1 := by kernel_rfl
@[simp] theorem bytes168 : bytesA Tryz.prog 168 = some 8 := by kernel_rfl
@[simp] theorem agg168 : isAggA Tryz.prog 168 = some false := by kernel_rfl
@[simp] theorem elem168 : elemA Tryz.prog 168 = none := by kernel_rfl
@[simp] theorem zero168 : zeroA Tryz.prog 168 = some .nilp := by kernel_rfl
@[simp] theorem size173 : sizeA Tryz.prog 173 = some 20 := by kernel_rfl
@[simp] theorem bytes173 : bytesA Tryz.prog 173 = some 160 := by kernel_rfl
@[simp] theorem agg173 : isAggA Tryz.prog 173 = some true := by kernel_rfl
@[simp] theorem elem173 : elemA Tryz.prog 173 = none := by kernel_rfl
@[simp] theorem zero173 : zeroA Tryz.prog 173 = some (.agg (List.replicate 20 (.int .u64 0))) := by kernel_rfl
@[simp] theorem bpl173 : buildPl Tryz.prog 173 = some (fun i => some (i * 1, 1)) := by kernel_rfl
@[simp] theorem und173 : Tryz.prog.underlying 173 = some (.array 20 141) := by kernel_rfl
@[simp] theorem size174 : sizeA Tryz.prog 174 = some 65 := by kernel_rfl
@[simp] theorem bytes174 : bytesA Tryz.prog 174 = some 65 := by kernel_rfl
@[simp] theorem agg174 : isAggA Tryz.prog 174 = some true := by kernel_rfl
@[simp] theorem elem174 : elemA Tryz.prog 174 = none := by kernel_rfl
@[simp] theorem bpl174 : buildPl Tryz.prog 174 = some (fun i => some (i * 1, 1)) := by kernel_rfl
@[simp] theorem und174 : Tryz.prog.underlying 174 = some (.array 65 5) := by kernel_rfl
@[simp] theorem size181 : sizeA Tryz.prog 181 = some 3 := by kernel_rfl
@[simp] theorem bytes181 : bytesA Tryz.prog 181 = some 48 := by kernel_rfl
@[simp] theorem agg181 : isAggA Tryz.prog 181 = some true := by kernel_rfl
@[simp] theorem elem181 : elemA Tryz.prog 181 = none := by kernel_rfl
@[simp] theorem zero181 : zeroA Tryz.prog 181 = some (.agg [(.str []), (.str []), .nili]) := by kernel_rfl
@[simp] theorem bpl181 : buildPl Tryz.prog 181 = some (fun i => [(0, 1), (1, 1), (2, 1)][i]?) := by kernel_rfl
@[simp] theorem size183 : sizeA Tryz.prog 183 = some 256 := by kernel_rfl
@[simp] theorem bytes183 : bytesA Tryz.prog 183 = some 256 := by kernel_rfl
@[simp] theorem agg183 : isAggA Tryz.prog 183 = some true := by kernel_rfl
@[simp] theorem elem183 : elemA Tryz.prog 183 = none := by kernel_rfl
@[simp] theorem bpl183 : buildPl Tryz.prog 183 = some (fun i => some (i * 1, 1)) := by kernel_rfl
@[simp] theorem und183 : Tryz.prog.underlying 183 = some (.array 256 5) := by kernel_rfl
@[simp] theorem size185 : sizeA Tryz.prog 185 = some 2 := by kernel_rfl
@[simp] theorem bytes185 : bytesA Tryz.prog 185 = some 2 := by kernel_rfl
@[simp] theorem agg185 : isAggA Tryz.prog 185 = some true := by kernel_rfl
@[simp] theorem elem185 : elemA Tryz.prog 185 = none := by kernel_rfl
@[simp] theorem zero185 : zeroA Tryz.prog 185 = some (.agg [(.int .u8 0), (.int .u8 0)]) := by kernel_rfl
@[simp] theorem bpl185 : buildPl Tryz.prog 185 = some (fun i => [(0, 1), (1, 1)][i]?) := by kernel_rfl
@[simp] theorem size186 : sizeA Tryz.prog 186 = some 32 := by kernel_rfl
@[simp] theorem bytes186 : bytesA Tryz.prog 186 = some 32 := by kernel_rfl
@[simp] theorem agg186 : isAggA Tryz.prog 186 = some true := by kernel_rfl
@[simp] theorem elem186 : elemA Tryz.prog 186 = none := by kernel_rfl
@[simp] theorem zero186 : zeroA Tryz.prog 186 = some (.agg (List.replicate 32 (.int .u8 0))) := by kernel_rfl
@[simp] theorem bpl186 : buildPl Tryz.prog 186 = some (fun i => some (i * 2, 2)) := by kernel_rfl
@[simp] theorem und186 : Tryz.prog.underlying 186 = some (.array 16 185) := by kernel_rfl
@[simp] theorem size190 : sizeA Tryz.prog 190 = some 1 := by kernel_rfl
@[simp] theorem bytes190 : bytesA Tryz.prog 190 = some 8 := by kernel_rfl
@[simp] theorem agg190 : isAggA Tryz.prog 190 = some false := by kernel_rfl
@[simp] theorem elem190 : elemA Tryz.prog 190 = none := by kernel_rfl
@[simp] theorem zero190 : zeroA Tryz.prog 190 = some .nilp := by kernel_rfl
@[simp] theorem size192 : sizeA Tryz.prog 192 = some 1 := by kernel_rfl
@[simp] theorem bytes192 : bytesA Tryz.prog 192 = some 16 := by kernel_rfl
@[simp] theorem agg192 : isAggA Tryz.prog 192 = some true := by kernel_rfl
@[simp] theorem elem192 : elemA Tryz.prog 192 = none := by kernel_rfl
@[simp] theorem zero192 : zeroA Tryz.prog 192 = some (.agg [(.str [])]) := by kernel_rfl
@[simp] theorem bpl192 : buildPl Tryz.prog 192 = some (fun i => [(0, 1)][i]?) := by kernel_rfl
@[simp] theorem size193 : sizeA Tryz.prog 193 = some 32 := by kernel_rfl
@[simp] theorem bytes193 : bytesA Tryz.prog 193 = some 32 := by kernel_rfl
@[simp] theorem agg193 : isAggA Tryz.prog 193 = some true := by kernel_rfl
@[simp] theorem elem193 : elemA Tryz.prog 193 = none := by kernel_rfl
@[simp] theorem zero193 : zeroA Tryz.prog 193 = some (.agg (List.replicate 32 (.int .u8 0))) := by kernel_rfl
@[simp] theorem bpl193 : buildPl Tryz.prog 193 = some (fun i => some (i * 1, 1)) := by kernel_rfl
@[simp] theorem und193 : Tryz.prog.underlying 193 = some (.array 32 5) := by kernel_rfl
@[simp] theorem size194 : sizeA Tryz.prog 194 = some 64 := by kernel_rfl
@[simp] theorem bytes194 : bytesA Tryz.prog 194 = some 64 := by kernel_rfl
@[simp] theorem agg194 : isAggA Tryz.prog 194 = some true := by kernel_rfl
@[simp] theorem elem194 : elemA Tryz.prog 194 = none := by kernel_rfl
@[simp] theorem zero194 : zeroA Tryz.prog 194 = some (.agg (List.replicate 64 (.int .u8 0))) := by kernel_rfl
@[simp] theorem bpl194 : buildPl Tryz.prog 194 = some (fun i => some (i * 1, 1)) := by kernel_rfl
@[simp] theorem und194 : Tryz.prog.underlying 194 = some (.array 64 5) := by kernel_rfl
@[simp] theorem field31x0 : fieldA Tryz.prog 31 0 = some (0, 3) := by kernel_rfl
@[simp] theorem field31x1 : fieldA Tryz.prog 31 1 = some (1, 3) := by kernel_rfl
@[simp] theorem field31x2 : fieldA Tryz.prog 31 2 = some (2, 3) := by kernel_rfl
@[simp] theorem field31x3 : fieldA Tryz.prog 31 3 = some (3, 3) := by kernel_rfl
@[simp] theorem field46x0 : fieldA Tryz.prog 46 0 = some (0, 3) := by kernel_rfl
@[simp] theorem field46x1 : fieldA Tryz.prog 46 1 = some (1, 3) := by kernel_rfl
@[simp] theorem field46x2 : fieldA Tryz.prog 46 2 = some (2, 3) := by kernel_rfl
@[simp] theorem field46x3 : fieldA Tryz.prog 46 3 = some (3, 3) := by kernel_rfl
@[simp] theorem field80x0 : fieldA Tryz.prog 80 0 = some (0, 78) := by kernel_rfl
@[simp] theorem field100x0 : fieldA Tryz.prog 100 0 = some (0, 98) := by kernel_rfl
@[simp] theorem field100x1 : fieldA Tryz.prog 100 1 = some (1, 35) := by kernel_rfl
@[simp] theorem field113x0 : fieldA Tryz.prog 113 0 = some (0, 3) := by kernel_rfl
@[simp] theorem field113x1 : fieldA Tryz.prog 113 1 = some (1, 3) := by kernel_rfl
@[simp] theorem field185x0 : fieldA Tryz.prog 185 0 = some (0, 5) := by kernel_rfl
@[simp] theorem field185x1 : fieldA Tryz.prog 185 1 = some (1, 5) := by kernel_rfl
@[simp] theorem iface20 : isIface Tryz.prog 20 = true := by kernel_rfl
@[simp] theorem func37 : isFuncT Tryz.prog 37 = true := by kernel_rfl
@[simp] theorem iface102 : isIface Tryz.prog 102 = true := by kernel_rfl
@[simp] theorem func122 : isFuncT Tryz.prog 122 = true := by kernel_rfl
@[simp] theorem eqs31 : eqShape Tryz.prog 31 = some [.int, .int, .int, .int] := by kernel_rfl
@[simp] theorem eqs46 : eqShape Tryz.prog 46 = some [.int, .int, .int, .int] := by kernel_rfl
def h4 : Hint where
  vars := [0, 1, 2, 3, 8, 9, 10, 11, 13, 14, 15, 16, 17, 18, 19, 20, 21, 22, 23, 24, 25]
  conds := [39, 47, 79]
  steal := [31, 32, 35, 40, 41, 45, 48, 53, 57, 61, 62, 63, 69, 70, 76, 77, 80, 83, 84, 88, 89, 91, 92, 93, 96, 97, 101, 102, 103, 106, 107, 108, 110, 111, 112, 116, 117, 121, 122, 126, 127, 131, 132, 136]
  live := []
  roots := []
  rets := true
  glob := []
  sw := []
  msd := []
  alt := []
  fz := 0
  gc := true
  wk := false
  rt := false
  inv := []
@[simp] theorem h4_vars : h4.vars = [0, 1, 2, 3, 8, 9, 10, 11, 13, 14, 15, 16, 17, 18, 19, 20, 21, 22, 23, 24, 25] := rfl
@[simp] theorem h4_conds : h4.conds = [39, 47, 79] := rfl
@[simp] theorem h4_steal : h4.steal = [31, 32, 35, 40, 41, 45, 48, 53, 57, 61, 62, 63, 69, 70, 76, 77, 80, 83, 84, 88, 89, 91, 92, 93, 96, 97, 101, 102, 103, 106, 107, 108, 110, 111, 112, 116, 117, 121, 122, 126, 127, 131, 132, 136] := rfl
@[simp] theorem h4_live : h4.live = [] := rfl
@[simp] theorem h4_roots : h4.roots = [] := rfl
@[simp] theorem h4_rets : h4.rets = true := rfl
@[simp] theorem h4_glob : h4.glob = [] := rfl
@[simp] theorem h4_sw : h4.sw = [] := rfl
@[simp] theorem h4_msd : h4.msd = [] := rfl
@[simp] theorem h4_alt : h4.alt = [] := rfl
@[simp] theorem h4_fz : h4.fz = 0 := rfl
@[simp] theorem h4_gc : h4.gc = true := rfl
@[simp] theorem h4_wk : h4.wk = false := rfl
@[simp] theorem h4_rt : h4.rt = false := rfl
@[simp] theorem h4_inv : h4.inv = [] := rfl
def h5 : Hint where
  vars := [0, 1, 2, 3, 4, 5, 6, 7, 13, 16, 17, 18, 19, 20, 21, 22, 23, 24, 25, 26, 27, 28, 29, 30, 31, 32, 33, 34, 35, 36, 37, 38, 39, 40, 41, 42, 43, 44, 45, 46, 47]
  conds := [66, 74, 200, 225, 229, 241]
  steal := [53, 54, 57, 62, 67, 68, 72, 75, 82, 83, 85, 90, 91, 92, 96, 97, 100, 103, 104, 111, 112, 115, 116, 117, 120, 121, 125, 126, 131, 132, 136, 137, 138, 141, 163, 164, 166, 167, 169, 172, 173, 174, 177, 178, 180, 201, 207, 208, 209, 210, 214, 215, 217, 219, 230]
  live := [(27, [43, 45, 47])]
  roots := [(21, 21), (23, 23), (37, 37), (39, 39)]
  rets := true
  glob := []
  sw := []
  msd := []
  alt := []
  fz := 0
  gc := true
  wk := false
  rt := false
  inv := []
@[simp] theorem h5_vars : h5.vars = [0, 1, 2, 3, 4, 5, 6, 7, 13, 16, 17, 18, 19, 20, 21, 22, 23, 24, 25, 26, 27, 28, 29, 30, 31, 32, 33, 34, 35, 36, 37, 38, 39, 40, 41, 42, 43, 44, 45, 46, 47] := rfl
@[simp] theorem h5_conds : h5.conds = [66, 74, 200, 225, 229, 241] := rfl
@[simp] theorem h5_steal : h5.steal = [53, 54, 57, 62, 67, 68, 72, 75, 82, 83, 85, 90, 91, 92, 96, 97, 100, 103, 104, 111, 112, 115, 116, 117, 120, 121, 125, 126, 131, 132, 136, 137, 138, 141, 163, 164, 166, 167, 169, 172, 173, 174, 177, 178, 180, 201, 207, 208, 209, 210, 214, 215, 217, 219, 230] := rfl
@[simp] theorem h5_live : h5.live = [(27, [43, 45, 47])] := rfl
@[simp] theorem h5_roots : h5.roots = [(21, 21), (23, 23), (37, 37), (39, 39)] := rfl
@[simp] theorem h5_rets : h5.rets = true := rfl
@[simp] theorem h5_glob : h5.glob = [] := rfl
@[simp] theorem h5_sw : h5.sw = [] := rfl
@[simp] theorem h5_msd : h5.msd = [] := rfl
@[simp] theorem h5_alt : h5.alt = [] := rfl
@[simp] theorem h5_fz : h5.fz = 0 := rfl
@[simp] theorem h5_gc : h5.gc = true := rfl
@[simp] theorem h5_wk : h5.wk = false := rfl
@[simp] theorem h5_rt : h5.rt = false := rfl
@[simp] theorem h5_inv : h5.inv = [] := rfl
def h6 : Hint where
  vars := [0, 1, 2, 3, 4, 5, 6, 7, 8, 9]
  conds := []
  steal := [13, 16, 17, 21, 22, 25, 26, 30, 31, 33, 34, 37, 38, 42, 43, 46, 47, 50, 51, 55, 56, 60, 61]
  live := []
  roots := []
  rets := true
  glob := []
  sw := []
  msd := []
  alt := []
  fz := 0
  gc := false
  wk := false
  rt := false
  inv := []
@[simp] theorem h6_vars : h6.vars = [0, 1, 2, 3, 4, 5, 6, 7, 8, 9] := rfl
@[simp] theorem h6_conds : h6.conds = [] := rfl
@[simp] theorem h6_steal : h6.steal = [13, 16, 17, 21, 22, 25, 26, 30, 31, 33, 34, 37, 38, 42, 43, 46, 47, 50, 51, 55, 56, 60, 61] := rfl
@[simp] theorem h6_live : h6.live = [] := rfl
@[simp] theorem h6_roots : h6.roots = [] := rfl
@[simp] theorem h6_rets : h6.rets = true := rfl
@[simp] theorem h6_glob : h6.glob = [] := rfl
@[simp] theorem h6_sw : h6.sw = [] := rfl
@[simp] theorem h6_msd : h6.msd = [] := rfl
@[simp] theorem h6_alt : h6.alt = [] := rfl
@[simp] theorem h6_fz : h6.fz = 0 := rfl
@[simp] theorem h6_gc : h6.gc = false := rfl
@[simp] theorem h6_wk : h6.wk = false := rfl
@[simp] theorem h6_rt : h6.rt = false := rfl
@[simp] theorem h6_inv : h6.inv = [] := rfl
def h7 : Hint where
  vars := [0, 2, 3, 4]
  conds := [12]
  steal := [9, 13, 15, 24, 27, 28]
  live := [(3, [0, 3, 4])]
  roots := []
  rets := true
  glob := []
  sw := []
  msd := []
  alt := []
  fz := 0
  gc := false
  wk := false
  rt := false
  inv := []
@[simp] theorem h7_vars : h7.vars = [0, 2, 3, 4] := rfl
@[simp] theorem h7_conds : h7.conds = [12] := rfl
@[simp] theorem h7_steal : h7.steal = [9, 13, 15, 24, 27, 28] := rfl
@[simp] theorem h7_live : h7.live = [(3, [0, 3, 4])] := rfl
@[simp] theorem h7_roots : h7.roots = [] := rfl
@[simp] theorem h7_rets : h7.rets = true := rfl
@[simp] theorem h7_glob : h7.glob = [] := rfl
@[simp] theorem h7_sw : h7.sw = [] := rfl
@[simp] theorem h7_msd : h7.msd = [] := rfl
@[simp] theorem h7_alt : h7.alt = [] := rfl
@[simp] theorem h7_fz : h7.fz = 0 := rfl
@[simp] theorem h7_gc : h7.gc = false := rfl
@[simp] theorem h7_wk : h7.wk = false := rfl
@[simp] theorem h7_rt : h7.rt = false := rfl
@[simp] theorem h7_inv : h7.inv = [] := rfl
def h8 : Hint where
  vars := [0, 2, 3, 4, 5, 6, 7, 8, 9, 10]
  conds := [19, 49, 53]
  steal := [16, 20, 27, 32, 33, 36, 37, 41, 54, 59, 67, 68]
  live := [(4, [0, 4, 5, 6]), (11, [0, 4, 5, 6, 7, 10])]
  roots := []
  rets := true
  glob := []
  sw := []
  msd := []
  alt := []
  fz := 0
  gc := false
  wk := false
  rt := false
  inv := []
@[simp] theorem h8_vars : h8.vars = [0, 2, 3, 4, 5, 6, 7, 8, 9, 10] := rfl
@[simp] theorem h8_conds : h8.conds = [19, 49, 53] := rfl
@[simp] theorem h8_steal : h8.steal = [16, 20, 27, 32, 33, 36, 37, 41, 54, 59, 67, 68] := rfl
@[simp] theorem h8_live : h8.live = [(4, [0, 4, 5, 6]), (11, [0, 4, 5, 6, 7, 10])] := rfl
@[simp] theorem h8_roots : h8.roots = [] := rfl
@[simp] theorem h8_rets : h8.rets = true := rfl
@[simp] theorem h8_glob : h8.glob = [] := rfl
@[simp] theorem h8_sw : h8.sw = [] := rfl
@[simp] theorem h8_msd : h8.msd = [] := rfl
@[simp] theorem h8_alt : h8.alt = [] := rfl
@[simp] theorem h8_fz : h8.fz = 0 := rfl
@[simp] theorem h8_gc : h8.gc = false := rfl
@[simp] theorem h8_wk : h8.wk = false := rfl
@[simp] theorem h8_rt : h8.rt = false := rfl
@[simp] theorem h8_inv : h8.inv = [] := rfl
def h10 : Hint where
  vars := [0, 1, 2, 3, 8, 9, 10, 11]
  conds := [32]
  steal := [14, 18, 22, 26, 37, 38, 45, 46, 47, 48]
  live := []
  roots := []
  rets := true
  glob := []
  sw := []
  msd := []
  alt := []
  fz := 0
  gc := false
  wk := false
  rt := false
  inv := []
@[simp] theorem h10_vars : h10.vars = [0, 1, 2, 3, 8, 9, 10, 11] := rfl
@[simp] theorem h10_conds : h10.conds = [32] := rfl
@[simp] theorem h10_steal : h10.steal = [14, 18, 22, 26, 37, 38, 45, 46, 47, 48] := rfl
@[simp] theorem h10_live : h10.live = [] := rfl
@[simp] theorem h10_roots : h10.roots = [] := rfl
@[simp] theorem h10_rets : h10.rets = true := rfl
@[simp] theorem h10_glob : h10.glob = [] := rfl
@[simp] theorem h10_sw : h10.sw = [] := rfl
@[simp] theorem h10_msd : h10.msd = [] := rfl
@[simp] theorem h10_alt : h10.alt = [] := rfl
@[simp] theorem h10_fz : h10.fz = 0 := rfl
@[simp] theorem h10_gc : h10.gc = false := rfl
@[simp] theorem h10_wk : h10.wk = false := rfl
@[simp] theorem h10_rt : h10.rt = false := rfl
@[simp] theorem h10_inv : h10.inv = [] := rfl
def h11 : Hint where
  vars := [0, 1, 2, 6, 7]
  conds := [34]
  steal := [10, 19, 23, 35, 39, 42]
  live := []
  roots := []
  rets := true
  glob := []
  sw := []
  msd := []
  alt := []
  fz := 0
  gc := false
  wk := false
  rt := false
  inv := []
@[simp] theorem h11_vars : h11.vars = [0, 1, 2, 6, 7] := rfl
@[simp] theorem h11_conds : h11.conds = [34] := rfl
@[simp] theorem h11_steal : h11.steal = [10, 19, 23, 35, 39, 42] := rfl
@[simp] theorem h11_live : h11.live = [] := rfl
@[simp] theorem h11_roots : h11.roots = [] := rfl
@[simp] theorem h11_rets : h11.rets = true := rfl
@[simp] theorem h11_glob : h11.glob = [] := rfl
@[simp] theorem h11_sw : h11.sw = [] := rfl
@[simp] theorem h11_msd : h11.msd = [] := rfl
@[simp] theorem h11_alt : h11.alt = [] := rfl
@[simp] theorem h11_fz : h11.fz = 0 := rfl
@[simp] theorem h11_gc : h11.gc = false := rfl
@[simp] theorem h11_wk : h11.wk = false := rfl
@[simp] theorem h11_rt : h11.rt = false := rfl
@[simp] theorem h11_inv : h11.inv = [] := rfl
def h12 : Hint where
  vars := [0, 2]
  conds := []
  steal := [3]
  live := []
  roots := []
  rets := true
  glob := []
  sw := []
  msd := []
  alt := []
  fz := 0
  gc := false
  wk := false
  rt := false
  inv := []
@[simp] theorem h12_vars : h12.vars = [0, 2] := rfl
@[simp] theorem h12_conds : h12.conds = [] := rfl
@[simp] theorem h12_steal : h12.steal = [3] := rfl
@[simp] theorem h12_live : h12.live = [] := rfl
@[simp] theorem h12_roots : h12.roots = [] := rfl
@[simp] theorem h12_rets : h12.rets = true := rfl
@[simp] theorem h12_glob : h12.glob = [] := rfl
@[simp] theorem h12_sw : h12.sw = [] := rfl
@[simp] theorem h12_msd : h12.msd = [] := rfl
@[simp] theorem h12_alt : h12.alt = [] := rfl
@[simp] theorem h12_fz : h12.fz = 0 := rfl
@[simp] theorem h12_gc : h12.gc = false := rfl
@[simp] theorem h12_wk : h12.wk = false := rfl
@[simp] theorem h12_rt : h12.rt = false := rfl
@[simp] theorem h12_inv : h12.inv = [] := rfl
def h13 : Hint where
  vars := [0, 1, 3, 4, 5, 6, 7, 14, 15]
  conds := [12, 16]
  steal := [18, 41]
  live := [(5, [0, 3, 6, 14, 15])]
  roots := [(3, 3), (23, 3), (25, 3), (30, 3), (32, 3)]
  rets := true
  glob := []
  sw := [10, 11]
  msd := []
  alt := []
  fz := 0
  gc := false
  wk := false
  rt := false
  inv := []
@[simp] theorem h13_vars : h13.vars = [0, 1, 3, 4, 5, 6, 7, 14, 15] := rfl
@[simp] theorem h13_conds : h13.conds = [12, 16] := rfl
@[simp] theorem h13_steal : h13.steal = [18, 41] := rfl
@[simp] theorem h13_live : h13.live = [(5, [0, 3, 6, 14, 15])] := rfl
@[simp] theorem h13_roots : h13.roots = [(3, 3), (23, 3), (25, 3), (30, 3), (32, 3)] := rfl
@[simp] theorem h13_rets : h13.rets = true := rfl
@[simp] theorem h13_glob : h13.glob = [] := rfl
@[simp] theorem h13_sw : h13.sw = [10, 11] := rfl
@[simp] theorem h13_msd : h13.msd = [] := rfl
@[simp] theorem h13_alt : h13.alt = [] := rfl
@[simp] theorem h13_fz : h13.fz = 0 := rfl
@[simp] theorem h13_gc : h13.gc = false := rfl
@[simp] theorem h13_wk : h13.wk = false := rfl
@[simp] theorem h13_rt : h13.rt = false := rfl
@[simp] theorem h13_inv : h13.inv = [] := rfl
def h14 : Hint where
  vars := [0, 1, 2, 3, 4, 5, 8, 9, 10, 11, 12]
  conds := [23, 38, 70]
  steal := [16, 39, 71, 72, 76]
  live := []
  roots := [(32, 4), (35, 4), (55, 4), (60, 4), (67, 4)]
  rets := true
  glob := [5]
  sw := []
  msd := []
  alt := []
  fz := 0
  gc := true
  wk := false
  rt := false
  inv := []
@[simp] theorem h14_vars : h14.vars = [0, 1, 2, 3, 4, 5, 8, 9, 10, 11, 12] := rfl
@[simp] theorem h14_conds : h14.conds = [23, 38, 70] := rfl
@[simp] theorem h14_steal : h14.steal = [16, 39, 71, 72, 76] := rfl
@[simp] theorem h14_live : h14.live = [] := rfl
@[simp] theorem h14_roots : h14.roots = [(32, 4), (35, 4), (55, 4), (60, 4), (67, 4)] := rfl
@[simp] theorem h14_rets : h14.rets = true := rfl
@[simp] theorem h14_glob : h14.glob = [5] := rfl
@[simp] theorem h14_sw : h14.sw = [] := rfl
@[simp] theorem h14_msd : h14.msd = [] := rfl
@[simp] theorem h14_alt : h14.alt = [] := rfl
@[simp] theorem h14_fz : h14.fz = 0 := rfl
@[simp] theorem h14_gc : h14.gc = true := rfl
@[simp] theorem h14_wk : h14.wk = false := rfl
@[simp] theorem h14_rt : h14.rt = false := rfl
@[simp] theorem h14_inv : h14.inv = [] := rfl
def h15 : Hint where
  vars := [0, 1, 2, 3, 4, 5]
  conds := [8, 17, 44]
  steal := [18, 25, 45, 51]
  live := [(5, [1, 4, 5])]
  roots := [(27, 1), (32, 1), (39, 1), (41, 1)]
  rets := true
  glob := []
  sw := [29, 34]
  msd := []
  alt := []
  fz := 0
  gc := false
  wk := false
  rt := false
  inv := []
@[simp] theorem h15_vars : h15.vars = [0, 1, 2, 3, 4, 5] := rfl
@[simp] theorem h15_conds : h15.conds = [8, 17, 44] := rfl
@[simp] theorem h15_steal : h15.steal = [18, 25, 45, 51] := rfl
@[simp] theorem h15_live : h15.live = [(5, [1, 4, 5])] := rfl
@[simp] theorem h15_roots : h15.roots = [(27, 1), (32, 1), (39, 1), (41, 1)] := rfl
@[simp] theorem h15_rets : h15.rets = true := rfl
@[simp] theorem h15_glob : h15.glob = [] := rfl
@[simp] theorem h15_sw : h15.sw = [29, 34] := rfl
@[simp] theorem h15_msd : h15.msd = [] := rfl
@[simp] theorem h15_alt : h15.alt = [] := rfl
@[simp] theorem h15_fz : h15.fz = 0 := rfl
@[simp] theorem h15_gc : h15.gc = false := rfl
@[simp] theorem h15_wk : h15.wk = false := rfl
@[simp] theorem h15_rt : h15.rt = false := rfl
@[simp] theorem h15_inv : h15.inv = [] := rfl
def h16 : Hint where
  vars := [0, 2, 3, 4, 5, 6, 7, 8, 9, 10, 11]
  conds := [22, 47, 52, 67]
  steal := [12, 17, 18, 33, 37, 43, 52, 53, 56, 60, 61, 63, 64, 65]
  live := []
  roots := [(8, 8)]
  rets := true
  glob := []
  sw := []
  msd := []
  alt := []
  fz := 0
  gc := false
  wk := false
  rt := false
  inv := []
@[simp] theorem h16_vars : h16.vars = [0, 2, 3, 4, 5, 6, 7, 8, 9, 10, 11] := rfl
@[simp] theorem h16_conds : h16.conds = [22, 47, 52, 67] := rfl
@[simp] theorem h16_steal : h16.steal = [12, 17, 18, 33, 37, 43, 52, 53, 56, 60, 61, 63, 64, 65] := rfl
@[simp] theorem h16_live : h16.live = [] := rfl
@[simp] theorem h16_roots : h16.roots = [(8, 8)] := rfl
@[simp] theorem h16_rets : h16.rets = true := rfl
@[simp] theorem h16_glob : h16.glob = [] := rfl
@[simp] theorem h16_sw : h16.sw = [] := rfl
@[simp] theorem h16_msd : h16.msd = [] := rfl
@[simp] theorem h16_alt : h16.alt = [] := rfl
@[simp] theorem h16_fz : h16.fz = 0 := rfl
@[simp] theorem h16_gc : h16.gc = false := rfl
@[simp] theorem h16_wk : h16.wk = false := rfl
@[simp] theorem h16_rt : h16.rt = false := rfl
@[simp] theorem h16_inv : h16.inv = [] := rfl
def h17 : Hint where
  vars := [0, 1, 4, 5]
  conds := [10, 14, 25]
  steal := [15]
  live := [(4, [0, 1, 5])]
  roots := []
  rets := true
  glob := []
  sw := []
  msd := []
  alt := []
  fz := 0
  gc := false
  wk := false
  rt := false
  inv := []
@[simp] theorem h17_vars : h17.vars = [0, 1, 4, 5] := rfl
@[simp] theorem h17_conds : h17.conds = [10, 14, 25] := rfl
@[simp] theorem h17_steal : h17.steal = [15] := rfl
@[simp] theorem h17_live : h17.live = [(4, [0, 1, 5])] := rfl
@[simp] theorem h17_roots : h17.roots = [] := rfl
@[simp] theorem h17_rets : h17.rets = true := rfl
@[simp] theorem h17_glob : h17.glob = [] := rfl
@[simp] theorem h17_sw : h17.sw = [] := rfl
@[simp] theorem h17_msd : h17.msd = [] := rfl
@[simp] theorem h17_alt : h17.alt = [] := rfl
@[simp] theorem h17_fz : h17.fz = 0 := rfl
@[simp] theorem h17_gc : h17.gc = false := rfl
@[simp] theorem h17_wk : h17.wk = false := rfl
@[simp] theorem h17_rt : h17.rt = false := rfl
@[simp] theorem h17_inv : h17.inv = [] := rfl
def h18 : Hint where
  vars := [0, 1, 2, 3, 8, 9, 10, 11, 12]
  conds := [33]
  steal := [15, 19, 23, 27, 38, 39, 61, 62, 63, 64]
  live := []
  roots := []
  rets := true
  glob := []
  sw := [53, 57]
  msd := []
  alt := []
  fz := 0
  gc := false
  wk := false
  rt := false
  inv := []
@[simp] theorem h18_vars : h18.vars = [0, 1, 2, 3, 8, 9, 10, 11, 12] := rfl
@[simp] theorem h18_conds : h18.conds = [33] := rfl
@[simp] theorem h18_steal : h18.steal = [15, 19, 23, 27, 38, 39, 61, 62, 63, 64] := rfl
@[simp] theorem h18_live : h18.live = [] := rfl
@[simp] theorem h18_roots : h18.roots = [] := rfl
@[simp] theorem h18_rets : h18.rets = true := rfl
@[simp] theorem h18_glob : h18.glob = [] := rfl
@[simp] theorem h18_sw : h18.sw = [53, 57] := rfl
@[simp] theorem h18_msd : h18.msd = [] := rfl
@[simp] theorem h18_alt : h18.alt = [] := rfl
@[simp] theorem h18_fz : h18.fz = 0 := rfl
@[simp] theorem h18_gc : h18.gc = false := rfl
@[simp] theorem h18_wk : h18.wk = false := rfl
@[simp] theorem h18_rt : h18.rt = false := rfl
@[simp] theorem h18_inv : h18.inv = [] := rfl
def h19 : Hint where
  vars := [0, 1, 2, 4, 5, 6, 7, 8, 9]
  conds := [14, 24]
  steal := [25, 37, 40, 46]
  live := [(6, [1, 2, 6, 7, 8])]
  roots := [(27, 2), (29, 2)]
  rets := true
  glob := []
  sw := [31]
  msd := []
  alt := []
  fz := 0
  gc := false
  wk := false
  rt := false
  inv := []
@[simp] theorem h19_vars : h19.vars = [0, 1, 2, 4, 5, 6, 7, 8, 9] := rfl
@[simp] theorem h19_conds : h19.conds = [14, 24] := rfl
@[simp] theorem h19_steal : h19.steal = [25, 37, 40, 46] := rfl
@[simp] theorem h19_live : h19.live = [(6, [1, 2, 6, 7, 8])] := rfl
@[simp] theorem h19_roots : h19.roots = [(27, 2), (29, 2)] := rfl
@[simp] theorem h19_rets : h19.rets = true := rfl
@[simp] theorem h19_glob : h19.glob = [] := rfl
@[simp] theorem h19_sw : h19.sw = [31] := rfl
@[simp] theorem h19_msd : h19.msd = [] := rfl
@[simp] theorem h19_alt : h19.alt = [] := rfl
@[simp] theorem h19_fz : h19.fz = 0 := rfl
@[simp] theorem h19_gc : h19.gc = false := rfl
@[simp] theorem h19_wk : h19.wk = false := rfl
@[simp] theorem h19_rt : h19.rt = false := rfl
@[simp] theorem h19_inv : h19.inv = [] := rfl
def h20 : Hint where
  vars := [0, 1, 2]
  conds := []
  steal := []
  live := []
  roots := []
  rets := true
  glob := []
  sw := []
  msd := []
  alt := []
  fz := 0
  gc := false
  wk := false
  rt := false
  inv := []
@[simp] theorem h20_vars : h20.vars = [0, 1, 2] := rfl
@[simp] theorem h20_conds : h20.conds = [] := rfl
@[simp] theorem h20_steal : h20.steal = [] := rfl
@[simp] theorem h20_live : h20.live = [] := rfl
@[simp] theorem h20_roots : h20.roots = [] := rfl
@[simp] theorem h20_rets : h20.rets = true := rfl
@[simp] theorem h20_glob : h20.glob = [] := rfl
@[simp] theorem h20_sw : h20.sw = [] := rfl
@[simp] theorem h20_msd : h20.msd = [] := rfl
@[simp] theorem h20_alt : h20.alt = [] := rfl
@[simp] theorem h20_fz : h20.fz = 0 := rfl
@[simp] theorem h20_gc : h20.gc = false := rfl
@[simp] theorem h20_wk : h20.wk = false := rfl
@[simp] theorem h20_rt : h20.rt = false := rfl
@[simp] theorem h20_inv : h20.inv = [] := rfl
def h21 : Hint where
  vars := [0, 1, 2, 3, 4, 8, 9, 10, 11, 12, 13]
  conds := [52, 67, 82, 97, 103]
  steal := [68, 83, 104, 106, 116]
  live := [(13, [1, 10, 11, 12, 13])]
  roots := [(14, 4), (18, 4), (23, 4), (28, 4), (30, 4), (36, 4), (41, 4), (48, 4), (61, 4), (64, 4), (74, 4), (80, 4)]
  rets := true
  glob := []
  sw := [32, 76]
  msd := []
  alt := []
  fz := 0
  gc := false
  wk := false
  rt := false
  inv := []
@[simp] theorem h21_vars : h21.vars = [0, 1, 2, 3, 4, 8, 9, 10, 11, 12, 13] := rfl
@[simp] theorem h21_conds : h21.conds = [52, 67, 82, 97, 103] := rfl
@[simp] theorem h21_steal : h21.steal = [68, 83, 104, 106, 116] := rfl
@[simp] theorem h21_live : h21.live = [(13, [1, 10, 11, 12, 13])] := rfl
@[simp] theorem h21_roots : h21.roots = [(14, 4), (18, 4), (23, 4), (28, 4), (30, 4), (36, 4), (41, 4), (48, 4), (61, 4), (64, 4), (74, 4), (80, 4)] := rfl
@[simp] theorem h21_rets : h21.rets = true := rfl
@[simp] theorem h21_glob : h21.glob = [] := rfl
@[simp] theorem h21_sw : h21.sw = [32, 76] := rfl
@[simp] theorem h21_msd : h21.msd = [] := rfl
@[simp] theorem h21_alt : h21.alt = [] := rfl
@[simp] theorem h21_fz : h21.fz = 0 := rfl
@[simp] theorem h21_gc : h21.gc = false := rfl
@[simp] theorem h21_wk : h21.wk = false := rfl
@[simp] theorem h21_rt : h21.rt = false := rfl
@[simp] theorem h21_inv : h21.inv = [] := rfl
def h22 : Hint where
  vars := [0, 1, 2, 3, 4, 5]
  conds := [8, 17, 44]
  steal := [18, 25, 45, 51]
  live := [(5, [1, 4, 5])]
  roots := [(27, 1), (32, 1), (39, 1), (41, 1)]
  rets := true
  glob := []
  sw := [29, 34, 43]
  msd := []
  alt := []
  fz := 0
  gc := false
  wk := false
  rt := false
  inv := []
@[simp] theorem h22_vars : h22.vars = [0, 1, 2, 3, 4, 5] := rfl
@[simp] theorem h22_conds : h22.conds = [8, 17, 44] := rfl
@[simp] theorem h22_steal : h22.steal = [18, 25, 45, 51] := rfl
@[simp] theorem h22_live : h22.live = [(5, [1, 4, 5])] := rfl
@[simp] theorem h22_roots : h22.roots = [(27, 1), (32, 1), (39, 1), (41, 1)] := rfl
@[simp] theorem h22_rets : h22.rets = true := rfl
@[simp] theorem h22_glob : h22.glob = [] := rfl
@[simp] theorem h22_sw : h22.sw = [29, 34, 43] := rfl
@[simp] theorem h22_msd : h22.msd = [] := rfl
@[simp] theorem h22_alt : h22.alt = [] := rfl
@[simp] theorem h22_fz : h22.fz = 0 := rfl
@[simp] theorem h22_gc : h22.gc = false := rfl
@[simp] theorem h22_wk : h22.wk = false := rfl
@[simp] theorem h22_rt : h22.rt = false := rfl
@[simp] theorem h22_inv : h22.inv = [] := rfl
def h23 : Hint where
  vars := [0, 2, 3, 4, 5, 6, 7, 8, 9, 10]
  conds := [26, 44, 57, 86, 100, 115, 135]
  steal := [16, 22, 40, 65, 87, 97, 101, 106, 111, 124, 128, 129, 131, 132, 133]
  live := [(14, [0, 2, 4, 5, 6, 7])]
  roots := [(5, 5), (117, 5), (123, 5)]
  rets := true
  glob := []
  sw := [83, 121]
  msd := []
  alt := [(12, 1)]
  fz := 0
  gc := true
  wk := false
  rt := false
  inv := []
@[simp] theorem h23_vars : h23.vars = [0, 2, 3, 4, 5, 6, 7, 8, 9, 10] := rfl
@[simp] theorem h23_conds : h23.conds = [26, 44, 57, 86, 100, 115, 135] := rfl
@[simp] theorem h23_steal : h23.steal = [16, 22, 40, 65, 87, 97, 101, 106, 111, 124, 128, 129, 131, 132, 133] := rfl
@[simp] theorem h23_live : h23.live = [(14, [0, 2, 4, 5, 6, 7])] := rfl
@[simp] theorem h23_roots : h23.roots = [(5, 5), (117, 5), (123, 5)] := rfl
@[simp] theorem h23_rets : h23.rets = true := rfl
@[simp] theorem h23_glob : h23.glob = [] := rfl
@[simp] theorem h23_sw : h23.sw = [83, 121] := rfl
@[simp] theorem h23_msd : h23.msd = [] := rfl
@[simp] theorem h23_alt : h23.alt = [(12, 1)] := rfl
@[simp] theorem h23_fz : h23.fz = 0 := rfl
@[simp] theorem h23_gc : h23.gc = true := rfl
@[simp] theorem h23_wk : h23.wk = false := rfl
@[simp] theorem h23_rt : h23.rt = false := rfl
@[simp] theorem h23_inv : h23.inv = [] := rfl
def h24 : Hint where
  vars := [0, 1, 4, 5, 6, 7, 8]
  conds := [22, 28, 39]
  steal := [11, 15, 19, 29, 40, 42, 50]
  live := [(5, [0, 1, 6, 7]), (8, [0, 1, 6, 7, 8])]
  roots := []
  rets := true
  glob := []
  sw := []
  msd := []
  alt := []
  fz := 0
  gc := false
  wk := false
  rt := false
  inv := []
@[simp] theorem h24_vars : h24.vars = [0, 1, 4, 5, 6, 7, 8] := rfl
@[simp] theorem h24_conds : h24.conds = [22, 28, 39] := rfl
@[simp] theorem h24_steal : h24.steal = [11, 15, 19, 29, 40, 42, 50] := rfl
@[simp] theorem h24_live : h24.live = [(5, [0, 1, 6, 7]), (8, [0, 1, 6, 7, 8])] := rfl
@[simp] theorem h24_roots : h24.roots = [] := rfl
@[simp] theorem h24_rets : h24.rets = true := rfl
@[simp] theorem h24_glob : h24.glob = [] := rfl
@[simp] theorem h24_sw : h24.sw = [] := rfl
@[simp] theorem h24_msd : h24.msd = [] := rfl
@[simp] theorem h24_alt : h24.alt = [] := rfl
@[simp] theorem h24_fz : h24.fz = 0 := rfl
@[simp] theorem h24_gc : h24.gc = false := rfl
@[simp] theorem h24_wk : h24.wk = false := rfl
@[simp] theorem h24_rt : h24.rt = false := rfl
@[simp] theorem h24_inv : h24.inv = [] := rfl
def h25 : Hint where
  vars := [0, 1, 4, 5, 6, 7, 8, 9]
  conds := [23, 27, 41]
  steal := [12, 16, 20, 28, 42, 44, 60]
  live := [(5, [0, 1, 6, 7]), (9, [0, 1, 6, 7, 8, 9])]
  roots := []
  rets := true
  glob := []
  sw := []
  msd := []
  alt := []
  fz := 0
  gc := false
  wk := false
  rt := false
  inv := []
@[simp] theorem h25_vars : h25.vars = [0, 1, 4, 5, 6, 7, 8, 9] := rfl
@[simp] theorem h25_conds : h25.conds = [23, 27, 41] := rfl
@[simp] theorem h25_steal : h25.steal = [12, 16, 20, 28, 42, 44, 60] := rfl
@[simp] theorem h25_live : h25.live = [(5, [0, 1, 6, 7]), (9, [0, 1, 6, 7, 8, 9])] := rfl
@[simp] theorem h25_roots : h25.roots = [] := rfl
@[simp] theorem h25_rets : h25.rets = true := rfl
@[simp] theorem h25_glob : h25.glob = [] := rfl
@[simp] theorem h25_sw : h25.sw = [] := rfl
@[simp] theorem h25_msd : h25.msd = [] := rfl
@[simp] theorem h25_alt : h25.alt = [] := rfl
@[simp] theorem h25_fz : h25.fz = 0 := rfl
@[simp] theorem h25_gc : h25.gc = false := rfl
@[simp] theorem h25_wk : h25.wk = false := rfl
@[simp] theorem h25_rt : h25.rt = false := rfl
@[simp] theorem h25_inv : h25.inv = [] := rfl
def h26 : Hint where
  vars := [0, 2, 3, 5, 6, 7, 8]
  conds := [9]
  steal := [6, 16]
  live := [(3, [3, 6, 7, 8])]
  roots := []
  rets := true
  glob := [3]
  sw := []
  msd := []
  alt := []
  fz := 0
  gc := true
  wk := false
  rt := false
  inv := []
@[simp] theorem h26_vars : h26.vars = [0, 2, 3, 5, 6, 7, 8] := rfl
@[simp] theorem h26_conds : h26.conds = [9] := rfl
@[simp] theorem h26_steal : h26.steal = [6, 16] := rfl
@[simp] theorem h26_live : h26.live = [(3, [3, 6, 7, 8])] := rfl
@[simp] theorem h26_roots : h26.roots = [] := rfl
@[simp] theorem h26_rets : h26.rets = true := rfl
@[simp] theorem h26_glob : h26.glob = [3] := rfl
@[simp] theorem h26_sw : h26.sw = [] := rfl
@[simp] theorem h26_msd : h26.msd = [] := rfl
@[simp] theorem h26_alt : h26.alt = [] := rfl
@[simp] theorem h26_fz : h26.fz = 0 := rfl
@[simp] theorem h26_gc : h26.gc = true := rfl
@[simp] theorem h26_wk : h26.wk = false := rfl
@[simp] theorem h26_rt : h26.rt = false := rfl
@[simp] theorem h26_inv : h26.inv = [] := rfl
def h27 : Hint where
  vars := [0, 2]
  conds := []
  steal := [4]
  live := []
  roots := []
  rets := true
  glob := []
  sw := []
  msd := [5]
  alt := []
  fz := 0
  gc := false
  wk := false
  rt := false
  inv := []
@[simp] theorem h27_vars : h27.vars = [0, 2] := rfl
@[simp] theorem h27_conds : h27.conds = [] := rfl
@[simp] theorem h27_steal : h27.steal = [4] := rfl
@[simp] theorem h27_live : h27.live = [] := rfl
@[simp] theorem h27_roots : h27.roots = [] := rfl
@[simp] theorem h27_rets : h27.rets = true := rfl
@[simp] theorem h27_glob : h27.glob = [] := rfl
@[simp] theorem h27_sw : h27.sw = [] := rfl
@[simp] theorem h27_msd : h27.msd = [5] := rfl
@[simp] theorem h27_alt : h27.alt = [] := rfl
@[simp] theorem h27_fz : h27.fz = 0 := rfl
@[simp] theorem h27_gc : h27.gc = false := rfl
@[simp] theorem h27_wk : h27.wk = false := rfl
@[simp] theorem h27_rt : h27.rt = false := rfl
@[simp] theorem h27_inv : h27.inv = [] := rfl
def h28 : Hint where
  vars := [0, 1, 4, 5, 6]
  conds := [10]
  steal := [11, 16, 18]
  live := []
  roots := []
  rets := true
  glob := []
  sw := []
  msd := []
  alt := []
  fz := 0
  gc := false
  wk := false
  rt := false
  inv := []
@[simp] theorem h28_vars : h28.vars = [0, 1, 4, 5, 6] := rfl
@[simp] theorem h28_conds : h28.conds = [10] := rfl
@[simp] theorem h28_steal : h28.steal = [11, 16, 18] := rfl
@[simp] theorem h28_live : h28.live = [] := rfl
@[simp] theorem h28_roots : h28.roots = [] := rfl
@[simp] theorem h28_rets : h28.rets = true := rfl
@[simp] theorem h28_glob : h28.glob = [] := rfl
@[simp] theorem h28_sw : h28.sw = [] := rfl
@[simp] theorem h28_msd : h28.msd = [] := rfl
@[simp] theorem h28_alt : h28.alt = [] := rfl
@[simp] theorem h28_fz : h28.fz = 0 := rfl
@[simp] theorem h28_gc : h28.gc = false := rfl
@[simp] theorem h28_wk : h28.wk = false := rfl
@[simp] theorem h28_rt : h28.rt = false := rfl
@[simp] theorem h28_inv : h28.inv = [] := rfl
def h29 : Hint where
  vars := [0, 2, 3, 4, 5, 6, 7, 8]
  conds := [15, 19, 29]
  steal := [11, 30, 31, 32]
  live := [(4, [0, 5, 6])]
  roots := []
  rets := true
  glob := []
  sw := []
  msd := []
  alt := []
  fz := 0
  gc := false
  wk := false
  rt := false
  inv := []
@[simp] theorem h29_vars : h29.vars = [0, 2, 3, 4, 5, 6, 7, 8] := rfl
@[simp] theorem h29_conds : h29.conds = [15, 19, 29] := rfl
@[simp] theorem h29_steal : h29.steal = [11, 30, 31, 32] := rfl
@[simp] theorem h29_live : h29.live = [(4, [0, 5, 6])] := rfl
@[simp] theorem h29_roots : h29.roots = [] := rfl
@[simp] theorem h29_rets : h29.rets = true := rfl
@[simp] theorem h29_glob : h29.glob = [] := rfl
@[simp] theorem h29_sw : h29.sw = [] := rfl
@[simp] theorem h29_msd : h29.msd = [] := rfl
@[simp] theorem h29_alt : h29.alt = [] := rfl
@[simp] theorem h29_fz : h29.fz = 0 := rfl
@[simp] theorem h29_gc : h29.gc = false := rfl
@[simp] theorem h29_wk : h29.wk = false := rfl
@[simp] theorem h29_rt : h29.rt = false := rfl
@[simp] theorem h29_inv : h29.inv = [] := rfl
def h30 : Hint where
  vars := [0]
  conds := []
  steal := []
  live := []
  roots := []
  rets := true
  glob := [1, 3]
  sw := []
  msd := [1]
  alt := []
  fz := 0
  gc := false
  wk := false
  rt := false
  inv := []
@[simp] theorem h30_vars : h30.vars = [0] := rfl
@[simp] theorem h30_conds : h30.conds = [] := rfl
@[simp] theorem h30_steal : h30.steal = [] := rfl
@[simp] theorem h30_live : h30.live = [] := rfl
@[simp] theorem h30_roots : h30.roots = [] := rfl
@[simp] theorem h30_rets : h30.rets = true := rfl
@[simp] theorem h30_glob : h30.glob = [1, 3] := rfl
@[simp] theorem h30_sw : h30.sw = [] := rfl
@[simp] theorem h30_msd : h30.msd = [1] := rfl
@[simp] theorem h30_alt : h30.alt = [] := rfl
@[simp] theorem h30_fz : h30.fz = 0 := rfl
@[simp] theorem h30_gc : h30.gc = false := rfl
@[simp] theorem h30_wk : h30.wk = false := rfl
@[simp] theorem h30_rt : h30.rt = false := rfl
@[simp] theorem h30_inv : h30.inv = [] := rfl
def h31 : Hint where
  vars := [0, 2, 3]
  conds := []
  steal := [8, 9]
  live := []
  roots := []
  rets := true
  glob := [7]
  sw := []
  msd := [7, 11]
  alt := [(5, 1)]
  fz := 0
  gc := false
  wk := false
  rt := false
  inv := []
@[simp] theorem h31_vars : h31.vars = [0, 2, 3] := rfl
@[simp] theorem h31_conds : h31.conds = [] := rfl
@[simp] theorem h31_steal : h31.steal = [8, 9] := rfl
@[simp] theorem h31_live : h31.live = [] := rfl
@[simp] theorem h31_roots : h31.roots = [] := rfl
@[simp] theorem h31_rets : h31.rets = true := rfl
@[simp] theorem h31_glob : h31.glob = [7] := rfl
@[simp] theorem h31_sw : h31.sw = [] := rfl
@[simp] theorem h31_msd : h31.msd = [7, 11] := rfl
@[simp] theorem h31_alt : h31.alt = [(5, 1)] := rfl
@[simp] theorem h31_fz : h31.fz = 0 := rfl
@[simp] theorem h31_gc : h31.gc = false := rfl
@[simp] theorem h31_wk : h31.wk = false := rfl
@[simp] theorem h31_rt : h31.rt = false := rfl
@[simp] theorem h31_inv : h31.inv = [] := rfl
def h32 : Hint where
  vars := [0, 1, 4, 5, 6, 7, 8, 9]
  conds := [13, 24, 54]
  steal := [14, 16, 49, 55, 57, 62]
  live := [(7, [0, 6, 7, 8])]
  roots := []
  rets := true
  glob := [31]
  sw := []
  msd := [29, 31, 40]
  alt := []
  fz := 0
  gc := false
  wk := false
  rt := false
  inv := []
@[simp] theorem h32_vars : h32.vars = [0, 1, 4, 5, 6, 7, 8, 9] := rfl
@[simp] theorem h32_conds : h32.conds = [13, 24, 54] := rfl
@[simp] theorem h32_steal : h32.steal = [14, 16, 49, 55, 57, 62] := rfl
@[simp] theorem h32_live : h32.live = [(7, [0, 6, 7, 8])] := rfl
@[simp] theorem h32_roots : h32.roots = [] := rfl
@[simp] theorem h32_rets : h32.rets = true := rfl
@[simp] theorem h32_glob : h32.glob = [31] := rfl
@[simp] theorem h32_sw : h32.sw = [] := rfl
@[simp] theorem h32_msd : h32.msd = [29, 31, 40] := rfl
@[simp] theorem h32_alt : h32.alt = [] := rfl
@[simp] theorem h32_fz : h32.fz = 0 := rfl
@[simp] theorem h32_gc : h32.gc = false := rfl
@[simp] theorem h32_wk : h32.wk = false := rfl
@[simp] theorem h32_rt : h32.rt = false := rfl
@[simp] theorem h32_inv : h32.inv = [] := rfl
def h33 : Hint where
  vars := [0, 1, 4, 5]
  conds := []
  steal := [9, 10, 17, 18, 23]
  live := []
  roots := []
  rets := true
  glob := []
  sw := []
  msd := [22]
  alt := []
  fz := 0
  gc := false
  wk := false
  rt := false
  inv := []
@[simp] theorem h33_vars : h33.vars = [0, 1, 4, 5] := rfl
@[simp] theorem h33_conds : h33.conds = [] := rfl
@[simp] theorem h33_steal : h33.steal = [9, 10, 17, 18, 23] := rfl
@[simp] theorem h33_live : h33.live = [] := rfl
@[simp] theorem h33_roots : h33.roots = [] := rfl
@[simp] theorem h33_rets : h33.rets = true := rfl
@[simp] theorem h33_glob : h33.glob = [] := rfl
@[simp] theorem h33_sw : h33.sw = [] := rfl
@[simp] theorem h33_msd : h33.msd = [22] := rfl
@[simp] theorem h33_alt : h33.alt = [] := rfl
@[simp] theorem h33_fz : h33.fz = 0 := rfl
@[simp] theorem h33_gc : h33.gc = false := rfl
@[simp] theorem h33_wk : h33.wk = false := rfl
@[simp] theorem h33_rt : h33.rt = false := rfl
@[simp] theorem h33_inv : h33.inv = [] := rfl
def h34 : Hint where
  vars := [0, 2]
  conds := []
  steal := [4]
  live := []
  roots := []
  rets := true
  glob := []
  sw := []
  msd := []
  alt := []
  fz := 0
  gc := false
  wk := false
  rt := false
  inv := []
@[simp] theorem h34_vars : h34.vars = [0, 2] := rfl
@[simp] theorem h34_conds : h34.conds = [] := rfl
@[simp] theorem h34_steal : h34.steal = [4] := rfl
@[simp] theorem h34_live : h34.live = [] := rfl
@[simp] theorem h34_roots : h34.roots = [] := rfl
@[simp] theorem h34_rets : h34.rets = true := rfl
@[simp] theorem h34_glob : h34.glob = [] := rfl
@[simp] theorem h34_sw : h34.sw = [] := rfl
@[simp] theorem h34_msd : h34.msd = [] := rfl
@[simp] theorem h34_alt : h34.alt = [] := rfl
@[simp] theorem h34_fz : h34.fz = 0 := rfl
@[simp] theorem h34_gc : h34.gc = false := rfl
@[simp] theorem h34_wk : h34.wk = false := rfl
@[simp] theorem h34_rt : h34.rt = false := rfl
@[simp] theorem h34_inv : h34.inv = [] := rfl
def h44 : Hint where
  vars := [0, 1, 2, 6]
  conds := []
  steal := [9, 13, 17, 18, 19, 20]
  live := []
  roots := []
  rets := true
  glob := []
  sw := []
  msd := []
  alt := []
  fz := 0
  gc := false
  wk := false
  rt := false
  inv := []
@[simp] theorem h44_vars : h44.vars = [0, 1, 2, 6] := rfl
@[simp] theorem h44_conds : h44.conds = [] := rfl
@[simp] theorem h44_steal : h44.steal = [9, 13, 17, 18, 19, 20] := rfl
@[simp] theorem h44_live : h44.live = [] := rfl
@[simp] theorem h44_roots : h44.roots = [] := rfl
@[simp] theorem h44_rets : h44.rets = true := rfl
@[simp] theorem h44_glob : h44.glob = [] := rfl
@[simp] theorem h44_sw : h44.sw = [] := rfl
@[simp] theorem h44_msd : h44.msd = [] := rfl
@[simp] theorem h44_alt : h44.alt = [] := rfl
@[simp] theorem h44_fz : h44.fz = 0 := rfl
@[simp] theorem h44_gc : h44.gc = false := rfl
@[simp] theorem h44_wk : h44.wk = false := rfl
@[simp] theorem h44_rt : h44.rt = false := rfl
@[simp] theorem h44_inv : h44.inv = [] := rfl
def h45 : Hint where
  vars := [0, 1, 2, 3, 8]
  conds := []
  steal := []
  live := []
  roots := [(8, 8)]
  rets := true
  glob := []
  sw := []
  msd := []
  alt := []
  fz := 0
  gc := false
  wk := false
  rt := false
  inv := []
@[simp] theorem h45_vars : h45.vars = [0, 1, 2, 3, 8] := rfl
@[simp] theorem h45_conds : h45.conds = [] := rfl
@[simp] theorem h45_steal : h45.steal = [] := rfl
@[simp] theorem h45_live : h45.live = [] := rfl
@[simp] theorem h45_roots : h45.roots = [(8, 8)] := rfl
@[simp] theorem h45_rets : h45.rets = true := rfl
@[simp] theorem h45_glob : h45.glob = [] := rfl
@[simp] theorem h45_sw : h45.sw = [] := rfl
@[simp] theorem h45_msd : h45.msd = [] := rfl
@[simp] theorem h45_alt : h45.alt = [] := rfl
@[simp] theorem h45_fz : h45.fz = 0 := rfl
@[simp] theorem h45_gc : h45.gc = false := rfl
@[simp] theorem h45_wk : h45.wk = false := rfl
@[simp] theorem h45_rt : h45.rt = false := rfl
@[simp] theorem h45_inv : h45.inv = [] := rfl
def h46 : Hint where
  vars := [0, 2]
  conds := []
  steal := [6]
  live := []
  roots := []
  rets := true
  glob := []
  sw := []
  msd := []
  alt := []
  fz := 0
  gc := false
  wk := false
  rt := false
  inv := []
@[simp] theorem h46_vars : h46.vars = [0, 2] := rfl
@[simp] theorem h46_conds : h46.conds = [] := rfl
@[simp] theorem h46_steal : h46.steal = [6] := rfl
@[simp] theorem h46_live : h46.live = [] := rfl
@[simp] theorem h46_roots : h46.roots = [] := rfl
@[simp] theorem h46_rets : h46.rets = true := rfl
@[simp] theorem h46_glob : h46.glob = [] := rfl
@[simp] theorem h46_sw : h46.sw = [] := rfl
@[simp] theorem h46_msd : h46.msd = [] := rfl
@[simp] theorem h46_alt : h46.alt = [] := rfl
@[simp] theorem h46_fz : h46.fz = 0 := rfl
@[simp] theorem h46_gc : h46.gc = false := rfl
@[simp] theorem h46_wk : h46.wk = false := rfl
@[simp] theorem h46_rt : h46.rt = false := rfl
@[simp] theorem h46_inv : h46.inv = [] := rfl
def h47 : Hint where
  vars := [0, 1, 2, 4]
  conds := []
  steal := []
  live := []
  roots := [(2, 2), (8, 2), (10, 2), (16, 2), (22, 2), (24, 2), (27, 2), (29, 2), (32, 2)]
  rets := true
  glob := []
  sw := []
  msd := []
  alt := []
  fz := 0
  gc := false
  wk := false
  rt := false
  inv := []
@[simp] theorem h47_vars : h47.vars = [0, 1, 2, 4] := rfl
@[simp] theorem h47_conds : h47.conds = [] := rfl
@[simp] theorem h47_steal : h47.steal = [] := rfl
@[simp] theorem h47_live : h47.live = [] := rfl
@[simp] theorem h47_roots : h47.roots = [(2, 2), (8, 2), (10, 2), (16, 2), (22, 2), (24, 2), (27, 2), (29, 2), (32, 2)] := rfl
@[simp] theorem h47_rets : h47.rets = true := rfl
@[simp] theorem h47_glob : h47.glob = [] := rfl
@[simp] theorem h47_sw : h47.sw = [] := rfl
@[simp] theorem h47_msd : h47.msd = [] := rfl
@[simp] theorem h47_alt : h47.alt = [] := rfl
@[simp] theorem h47_fz : h47.fz = 0 := rfl
@[simp] theorem h47_gc : h47.gc = false := rfl
@[simp] theorem h47_wk : h47.wk = false := rfl
@[simp] theorem h47_rt : h47.rt = false := rfl
@[simp] theorem h47_inv : h47.inv = [] := rfl
def h48 : Hint where
  vars := [0, 2]
  conds := []
  steal := [3]
  live := []
  roots := []
  rets := true
  glob := []
  sw := []
  msd := []
  alt := []
  fz := 0
  gc := false
  wk := false
  rt := false
  inv := []
@[simp] theorem h48_vars : h48.vars = [0, 2] := rfl
@[simp] theorem h48_conds : h48.conds = [] := rfl
@[simp] theorem h48_steal : h48.steal = [3] := rfl
@[simp] theorem h48_live : h48.live = [] := rfl
@[simp] theorem h48_roots : h48.roots = [] := rfl
@[simp] theorem h48_rets : h48.rets = true := rfl
@[simp] theorem h48_glob : h48.glob = [] := rfl
@[simp] theorem h48_sw : h48.sw = [] := rfl
@[simp] theorem h48_msd : h48.msd = [] := rfl
@[simp] theorem h48_alt : h48.alt = [] := rfl
@[simp] theorem h48_fz : h48.fz = 0 := rfl
@[simp] theorem h48_gc : h48.gc = false := rfl
@[simp] theorem h48_wk : h48.wk = false := rfl
@[simp] theorem h48_rt : h48.rt = false := rfl
@[simp] theorem h48_inv : h48.inv = [] := rfl
def h49 : Hint where
  vars := [0, 1, 2]
  conds := []
  steal := []
  live := []
  roots := [(3, 1), (7, 1), (12, 1), (17, 1), (22, 1), (27, 1), (29, 1)]
  rets := true
  glob := []
  sw := []
  msd := []
  alt := []
  fz := 0
  gc := false
  wk := false
  rt := false
  inv := []
@[simp] theorem h49_vars : h49.vars = [0, 1, 2] := rfl
@[simp] theorem h49_conds : h49.conds = [] := rfl
@[simp] theorem h49_steal : h49.steal = [] := rfl
@[simp] theorem h49_live : h49.live = [] := rfl
@[simp] theorem h49_roots : h49.roots = [(3, 1), (7, 1), (12, 1), (17, 1), (22, 1), (27, 1), (29, 1)] := rfl
@[simp] theorem h49_rets : h49.rets = true := rfl
@[simp] theorem h49_glob : h49.glob = [] := rfl
@[simp] theorem h49_sw : h49.sw = [] := rfl
@[simp] theorem h49_msd : h49.msd = [] := rfl
@[simp] theorem h49_alt : h49.alt = [] := rfl
@[simp] theorem h49_fz : h49.fz = 0 := rfl
@[simp] theorem h49_gc : h49.gc = false := rfl
@[simp] theorem h49_wk : h49.wk = false := rfl
@[simp] theorem h49_rt : h49.rt = false := rfl
@[simp] theorem h49_inv : h49.inv = [] := rfl
def h50 : Hint where
  vars := [0, 1, 2, 6, 7, 8, 9, 10, 11, 12]
  conds := [16, 35, 49]
  steal := [17, 18, 19, 20, 24, 27, 33, 36, 37, 38, 41, 42, 44, 47, 50, 51, 52]
  live := []
  roots := []
  rets := true
  glob := []
  sw := []
  msd := []
  alt := []
  fz := 0
  gc := true
  wk := false
  rt := false
  inv := []
@[simp] theorem h50_vars : h50.vars = [0, 1, 2, 6, 7, 8, 9, 10, 11, 12] := rfl
@[simp] theorem h50_conds : h50.conds = [16, 35, 49] := rfl
@[simp] theorem h50_steal : h50.steal = [17, 18, 19, 20, 24, 27, 33, 36, 37, 38, 41, 42, 44, 47, 50, 51, 52] := rfl
@[simp] theorem h50_live : h50.live = [] := rfl
@[simp] theorem h50_roots : h50.roots = [] := rfl
@[simp] theorem h50_rets : h50.rets = true := rfl
@[simp] theorem h50_glob : h50.glob = [] := rfl
@[simp] theorem h50_sw : h50.sw = [] := rfl
@[simp] theorem h50_msd : h50.msd = [] := rfl
@[simp] theorem h50_alt : h50.alt = [] := rfl
@[simp] theorem h50_fz : h50.fz = 0 := rfl
@[simp] theorem h50_gc : h50.gc = true := rfl
@[simp] theorem h50_wk : h50.wk = false := rfl
@[simp] theorem h50_rt : h50.rt = false := rfl
@[simp] theorem h50_inv : h50.inv = [] := rfl
def h51 : Hint where
  vars := [0, 1, 2, 5, 6]
  conds := []
  steal := [8, 9]
  live := []
  roots := []
  rets := true
  glob := []
  sw := []
  msd := []
  alt := []
  fz := 0
  gc := false
  wk := false
  rt := false
  inv := []
@[simp] theorem h51_vars : h51.vars = [0, 1, 2, 5, 6] := rfl
@[simp] theorem h51_conds : h51.conds = [] := rfl
@[simp] theorem h51_steal : h51.steal = [8, 9] := rfl
@[simp] theorem h51_live : h51.live = [] := rfl
@[simp] theorem h51_roots : h51.roots = [] := rfl
@[simp] theorem h51_rets : h51.rets = true := rfl
@[simp] theorem h51_glob : h51.glob = [] := rfl
@[simp] theorem h51_sw : h51.sw = [] := rfl
@[simp] theorem h51_msd : h51.msd = [] := rfl
@[simp] theorem h51_alt : h51.alt = [] := rfl
@[simp] theorem h51_fz : h51.fz = 0 := rfl
@[simp] theorem h51_gc : h51.gc = false := rfl
@[simp] theorem h51_wk : h51.wk = false := rfl
@[simp] theorem h51_rt : h51.rt = false := rfl
@[simp] theorem h51_inv : h51.inv = [] := rfl
def h52 : Hint where
  vars := [0, 1, 2, 6]
  conds := [8]
  steal := [9, 12, 23, 24, 26]
  live := []
  roots := []
  rets := true
  glob := []
  sw := []
  msd := []
  alt := []
  fz := 0
  gc := false
  wk := false
  rt := false
  inv := []
@[simp] theorem h52_vars : h52.vars = [0, 1, 2, 6] := rfl
@[simp] theorem h52_conds : h52.conds = [8] := rfl
@[simp] theorem h52_steal : h52.steal = [9, 12, 23, 24, 26] := rfl
@[simp] theorem h52_live : h52.live = [] := rfl
@[simp] theorem h52_roots : h52.roots = [] := rfl
@[simp] theorem h52_rets : h52.rets = true := rfl
@[simp] theorem h52_glob : h52.glob = [] := rfl
@[simp] theorem h52_sw : h52.sw = [] := rfl
@[simp] theorem h52_msd : h52.msd = [] := rfl
@[simp] theorem h52_alt : h52.alt = [] := rfl
@[simp] theorem h52_fz : h52.fz = 0 := rfl
@[simp] theorem h52_gc : h52.gc = false := rfl
@[simp] theorem h52_wk : h52.wk = false := rfl
@[simp] theorem h52_rt : h52.rt = false := rfl
@[simp] theorem h52_inv : h52.inv = [] := rfl
def h53 : Hint where
  vars := [0, 2, 3]
  conds := []
  steal := [4, 10]
  live := []
  roots := []
  rets := true
  glob := []
  sw := []
  msd := []
  alt := []
  fz := 0
  gc := false
  wk := false
  rt := false
  inv := []
@[simp] theorem h53_vars : h53.vars = [0, 2, 3] := rfl
@[simp] theorem h53_conds : h53.conds = [] := rfl
@[simp] theorem h53_steal : h53.steal = [4, 10] := rfl
@[simp] theorem h53_live : h53.live = [] := rfl
@[simp] theorem h53_roots : h53.roots = [] := rfl
@[simp] theorem h53_rets : h53.rets = true := rfl
@[simp] theorem h53_glob : h53.glob = [] := rfl
@[simp] theorem h53_sw : h53.sw = [] := rfl
@[simp] theorem h53_msd : h53.msd = [] := rfl
@[simp] theorem h53_alt : h53.alt = [] := rfl
@[simp] theorem h53_fz : h53.fz = 0 := rfl
@[simp] theorem h53_gc : h53.gc = false := rfl
@[simp] theorem h53_wk : h53.wk = false := rfl
@[simp] theorem h53_rt : h53.rt = false := rfl
@[simp] theorem h53_inv : h53.inv = [] := rfl
def h54 : Hint where
  vars := [0, 2]
  conds := []
  steal := [3]
  live := []
  roots := []
  rets := true
  glob := []
  sw := []
  msd := []
  alt := []
  fz := 0
  gc := false
  wk := false
  rt := false
  inv := []
@[simp] theorem h54_vars : h54.vars = [0, 2] := rfl
@[simp] theorem h54_conds : h54.conds = [] := rfl
@[simp] theorem h54_steal : h54.steal = [3] := rfl
@[simp] theorem h54_live : h54.live = [] := rfl
@[simp] theorem h54_roots : h54.roots = [] := rfl
@[simp] theorem h54_rets : h54.rets = true := rfl
@[simp] theorem h54_glob : h54.glob = [] := rfl
@[simp] theorem h54_sw : h54.sw = [] := rfl
@[simp] theorem h54_msd : h54.msd = [] := rfl
@[simp] theorem h54_alt : h54.alt = [] := rfl
@[simp] theorem h54_fz : h54.fz = 0 := rfl
@[simp] theorem h54_gc : h54.gc = false := rfl
@[simp] theorem h54_wk : h54.wk = false := rfl
@[simp] theorem h54_rt : h54.rt = false := rfl
@[simp] theorem h54_inv : h54.inv = [] := rfl
def h55 : Hint where
  vars := [0, 1, 4, 5, 6]
  conds := []
  steal := [7, 8, 12]
  live := []
  roots := []
  rets := true
  glob := []
  sw := []
  msd := []
  alt := []
  fz := 0
  gc := false
  wk := false
  rt := false
  inv := []
@[simp] theorem h55_vars : h55.vars = [0, 1, 4, 5, 6] := rfl
@[simp] theorem h55_conds : h55.conds = [] := rfl
@[simp] theorem h55_steal : h55.steal = [7, 8, 12] := rfl
@[simp] theorem h55_live : h55.live = [] := rfl
@[simp] theorem h55_roots : h55.roots = [] := rfl
@[simp] theorem h55_rets : h55.rets = true := rfl
@[simp] theorem h55_glob : h55.glob = [] := rfl
@[simp] theorem h55_sw : h55.sw = [] := rfl
@[simp] theorem h55_msd : h55.msd = [] := rfl
@[simp] theorem h55_alt : h55.alt = [] := rfl
@[simp] theorem h55_fz : h55.fz = 0 := rfl
@[simp] theorem h55_gc : h55.gc = false := rfl
@[simp] theorem h55_wk : h55.wk = false := rfl
@[simp] theorem h55_rt : h55.rt = false := rfl
@[simp] theorem h55_inv : h55.inv = [] := rfl
def h56 : Hint where
  vars := [0, 1, 4]
  conds := []
  steal := [5, 6]
  live := []
  roots := []
  rets := true
  glob := []
  sw := []
  msd := []
  alt := []
  fz := 0
  gc := false
  wk := false
  rt := false
  inv := []
@[simp] theorem h56_vars : h56.vars = [0, 1, 4] := rfl
@[simp] theorem h56_conds : h56.conds = [] := rfl
@[simp] theorem h56_steal : h56.steal = [5, 6] := rfl
@[simp] theorem h56_live : h56.live = [] := rfl
@[simp] theorem h56_roots : h56.roots = [] := rfl
@[simp] theorem h56_rets : h56.rets = true := rfl
@[simp] theorem h56_glob : h56.glob = [] := rfl
@[simp] theorem h56_sw : h56.sw = [] := rfl
@[simp] theorem h56_msd : h56.msd = [] := rfl
@[simp] theorem h56_alt : h56.alt = [] := rfl
@[simp] theorem h56_fz : h56.fz = 0 := rfl
@[simp] theorem h56_gc : h56.gc = false := rfl
@[simp] theorem h56_wk : h56.wk = false := rfl
@[simp] theorem h56_rt : h56.rt = false := rfl
@[simp] theorem h56_inv : h56.inv = [] := rfl
def h57 : Hint where
  vars := [0, 2, 3, 4]
  conds := [7, 14]
  steal := [8, 9, 12, 13, 15]
  live := []
  roots := []
  rets := true
  glob := []
  sw := []
  msd := []
  alt := []
  fz := 0
  gc := false
  wk := false
  rt := false
  inv := []
@[simp] theorem h57_vars : h57.vars = [0, 2, 3, 4] := rfl
@[simp] theorem h57_conds : h57.conds = [7, 14] := rfl
@[simp] theorem h57_steal : h57.steal = [8, 9, 12, 13, 15] := rfl
@[simp] theorem h57_live : h57.live = [] := rfl
@[simp] theorem h57_roots : h57.roots = [] := rfl
@[simp] theorem h57_rets : h57.rets = true := rfl
@[simp] theorem h57_glob : h57.glob = [] := rfl
@[simp] theorem h57_sw : h57.sw = [] := rfl
@[simp] theorem h57_msd : h57.msd = [] := rfl
@[simp] theorem h57_alt : h57.alt = [] := rfl
@[simp] theorem h57_fz : h57.fz = 0 := rfl
@[simp] theorem h57_gc : h57.gc = false := rfl
@[simp] theorem h57_wk : h57.wk = false := rfl
@[simp] theorem h57_rt : h57.rt = false := rfl
@[simp] theorem h57_inv : h57.inv = [] := rfl
def h58 : Hint where
  vars := [0, 1, 2, 6]
  conds := []
  steal := [7, 8, 9]
  live := []
  roots := []
  rets := true
  glob := []
  sw := []
  msd := []
  alt := []
  fz := 0
  gc := false
  wk := false
  rt := false
  inv := []
@[simp] theorem h58_vars : h58.vars = [0, 1, 2, 6] := rfl
@[simp] theorem h58_conds : h58.conds = [] := rfl
@[simp] theorem h58_steal : h58.steal = [7, 8, 9] := rfl
@[simp] theorem h58_live : h58.live = [] := rfl
@[simp] theorem h58_roots : h58.roots = [] := rfl
@[simp] theorem h58_rets : h58.rets = true := rfl
@[simp] theorem h58_glob : h58.glob = [] := rfl
@[simp] theorem h58_sw : h58.sw = [] := rfl
@[simp] theorem h58_msd : h58.msd = [] := rfl
@[simp] theorem h58_alt : h58.alt = [] := rfl
@[simp] theorem h58_fz : h58.fz = 0 := rfl
@[simp] theorem h58_gc : h58.gc = false := rfl
@[simp] theorem h58_wk : h58.wk = false := rfl
@[simp] theorem h58_rt : h58.rt = false := rfl
@[simp] theorem h58_inv : h58.inv = [] := rfl
def h59 : Hint where
  vars := [0, 1, 4, 5, 7, 8, 10, 12, 39, 40, 41, 63, 64, 65]
  conds := [13, 15, 22, 29, 42, 49, 66]
  steal := [17, 31, 51, 52, 56, 62, 71]
  live := [(12, [0, 1, 5, 39, 40, 41]), (22, [1, 8, 63, 64, 65])]
  roots := []
  rets := true
  glob := [8]
  sw := []
  msd := []
  alt := []
  fz := 0
  gc := true
  wk := false
  rt := false
  inv := []
@[simp] theorem h59_vars : h59.vars = [0, 1, 4, 5, 7, 8, 10, 12, 39, 40, 41, 63, 64, 65] := rfl
@[simp] theorem h59_conds : h59.conds = [13, 15, 22, 29, 42, 49, 66] := rfl
@[simp] theorem h59_steal : h59.steal = [17, 31, 51, 52, 56, 62, 71] := rfl
@[simp] theorem h59_live : h59.live = [(12, [0, 1, 5, 39, 40, 41]), (22, [1, 8, 63, 64, 65])] := rfl
@[simp] theorem h59_roots : h59.roots = [] := rfl
@[simp] theorem h59_rets : h59.rets = true := rfl
@[simp] theorem h59_glob : h59.glob = [8] := rfl
@[simp] theorem h59_sw : h59.sw = [] := rfl
@[simp] theorem h59_msd : h59.msd = [] := rfl
@[simp] theorem h59_alt : h59.alt = [] := rfl
@[simp] theorem h59_fz : h59.fz = 0 := rfl
@[simp] theorem h59_gc : h59.gc = true := rfl
@[simp] theorem h59_wk : h59.wk = false := rfl
@[simp] theorem h59_rt : h59.rt = false := rfl
@[simp] theorem h59_inv : h59.inv = [] := rfl
def h60 : Hint where
  vars := [0, 1, 2, 6]
  conds := []
  steal := [9, 13, 17, 21, 22, 24, 27]
  live := []
  roots := []
  rets := true
  glob := []
  sw := []
  msd := []
  alt := []
  fz := 0
  gc := false
  wk := false
  rt := false
  inv := []
@[simp] theorem h60_vars : h60.vars = [0, 1, 2, 6] := rfl
@[simp] theorem h60_conds : h60.conds = [] := rfl
@[simp] theorem h60_steal : h60.steal = [9, 13, 17, 21, 22, 24, 27] := rfl
@[simp] theorem h60_live : h60.live = [] := rfl
@[simp] theorem h60_roots : h60.roots = [] := rfl
@[simp] theorem h60_rets : h60.rets = true := rfl
@[simp] theorem h60_glob : h60.glob = [] := rfl
@[simp] theorem h60_sw : h60.sw = [] := rfl
@[simp] theorem h60_msd : h60.msd = [] := rfl
@[simp] theorem h60_alt : h60.alt = [] := rfl
@[simp] theorem h60_fz : h60.fz = 0 := rfl
@[simp] theorem h60_gc : h60.gc = false := rfl
@[simp] theorem h60_wk : h60.wk = false := rfl
@[simp] theorem h60_rt : h60.rt = false := rfl
@[simp] theorem h60_inv : h60.inv = [] := rfl
def h61 : Hint where
  vars := [0, 2, 3, 4]
  conds := [7]
  steal := [8, 10, 12]
  live := [(3, [0, 3, 4])]
  roots := []
  rets := true
  glob := []
  sw := []
  msd := []
  alt := []
  fz := 0
  gc := false
  wk := false
  rt := false
  inv := []
@[simp] theorem h61_vars : h61.vars = [0, 2, 3, 4] := rfl
@[simp] theorem h61_conds : h61.conds = [7] := rfl
@[simp] theorem h61_steal : h61.steal = [8, 10, 12] := rfl
@[simp] theorem h61_live : h61.live = [(3, [0, 3, 4])] := rfl
@[simp] theorem h61_roots : h61.roots = [] := rfl
@[simp] theorem h61_rets : h61.rets = true := rfl
@[simp] theorem h61_glob : h61.glob = [] := rfl
@[simp] theorem h61_sw : h61.sw = [] := rfl
@[simp] theorem h61_msd : h61.msd = [] := rfl
@[simp] theorem h61_alt : h61.alt = [] := rfl
@[simp] theorem h61_fz : h61.fz = 0 := rfl
@[simp] theorem h61_gc : h61.gc = false := rfl
@[simp] theorem h61_wk : h61.wk = false := rfl
@[simp] theorem h61_rt : h61.rt = false := rfl
@[simp] theorem h61_inv : h61.inv = [] := rfl
def h62 : Hint where
  vars := [0, 1, 2, 4]
  conds := [53]
  steal := []
  live := []
  roots := [(5, 2), (9, 2), (14, 2), (19, 2), (24, 2), (26, 2), (32, 2), (37, 2), (42, 2), (47, 2), (49, 2), (54, 2), (56, 2), (60, 2), (64, 2), (66, 2)]
  rets := true
  glob := []
  sw := [51, 58, 69]
  msd := []
  alt := []
  fz := 0
  gc := false
  wk := false
  rt := false
  inv := []
@[simp] theorem h62_vars : h62.vars = [0, 1, 2, 4] := rfl
@[simp] theorem h62_conds : h62.conds = [53] := rfl
@[simp] theorem h62_steal : h62.steal = [] := rfl
@[simp] theorem h62_live : h62.live = [] := rfl
@[simp] theorem h62_roots : h62.roots = [(5, 2), (9, 2), (14, 2), (19, 2), (24, 2), (26, 2), (32, 2), (37, 2), (42, 2), (47, 2), (49, 2), (54, 2), (56, 2), (60, 2), (64, 2), (66, 2)] := rfl
@[simp] theorem h62_rets : h62.rets = true := rfl
@[simp] theorem h62_glob : h62.glob = [] := rfl
@[simp] theorem h62_sw : h62.sw = [51, 58, 69] := rfl
@[simp] theorem h62_msd : h62.msd = [] := rfl
@[simp] theorem h62_alt : h62.alt = [] := rfl
@[simp] theorem h62_fz : h62.fz = 0 := rfl
@[simp] theorem h62_gc : h62.gc = false := rfl
@[simp] theorem h62_wk : h62.wk = false := rfl
@[simp] theorem h62_rt : h62.rt = false := rfl
@[simp] theorem h62_inv : h62.inv = [] := rfl
def h63 : Hint where
  vars := [0, 2, 3, 5]
  conds := [6, 9]
  steal := [11]
  live := []
  roots := []
  rets := true
  glob := []
  sw := [21, 25, 26]
  msd := []
  alt := []
  fz := 0
  gc := false
  wk := false
  rt := false
  inv := []
@[simp] theorem h63_vars : h63.vars = [0, 2, 3, 5] := rfl
@[simp] theorem h63_conds : h63.conds = [6, 9] := rfl
@[simp] theorem h63_steal : h63.steal = [11] := rfl
@[simp] theorem h63_live : h63.live = [] := rfl
@[simp] theorem h63_roots : h63.roots = [] := rfl
@[simp] theorem h63_rets : h63.rets = true := rfl
@[simp] theorem h63_glob : h63.glob = [] := rfl
@[simp] theorem h63_sw : h63.sw = [21, 25, 26] := rfl
@[simp] theorem h63_msd : h63.msd = [] := rfl
@[simp] theorem h63_alt : h63.alt = [] := rfl
@[simp] theorem h63_fz : h63.fz = 0 := rfl
@[simp] theorem h63_gc : h63.gc = false := rfl
@[simp] theorem h63_wk : h63.wk = false := rfl
@[simp] theorem h63_rt : h63.rt = false := rfl
@[simp] theorem h63_inv : h63.inv = [] := rfl
def h64 : Hint where
  vars := [0, 2, 3]
  conds := [8]
  steal := [4, 9, 11]
  live := [(2, [3])]
  roots := []
  rets := true
  glob := []
  sw := []
  msd := []
  alt := []
  fz := 0
  gc := false
  wk := false
  rt := false
  inv := []
@[simp] theorem h64_vars : h64.vars = [0, 2, 3] := rfl
@[simp] theorem h64_conds : h64.conds = [8] := rfl
@[simp] theorem h64_steal : h64.steal = [4, 9, 11] := rfl
@[simp] theorem h64_live : h64.live = [(2, [3])] := rfl
@[simp] theorem h64_roots : h64.roots = [] := rfl
@[simp] theorem h64_rets : h64.rets = true := rfl
@[simp] theorem h64_glob : h64.glob = [] := rfl
@[simp] theorem h64_sw : h64.sw = [] := rfl
@[simp] theorem h64_msd : h64.msd = [] := rfl
@[simp] theorem h64_alt : h64.alt = [] := rfl
@[simp] theorem h64_fz : h64.fz = 0 := rfl
@[simp] theorem h64_gc : h64.gc = false := rfl
@[simp] theorem h64_wk : h64.wk = false := rfl
@[simp] theorem h64_rt : h64.rt = false := rfl
@[simp] theorem h64_inv : h64.inv = [] := rfl
def h65 : Hint where
  vars := [0, 1, 4, 5, 6, 7]
  conds := [11, 24]
  steal := [12, 18, 25, 27, 34]
  live := [(4, [0, 1, 5, 6, 7])]
  roots := []
  rets := true
  glob := []
  sw := []
  msd := []
  alt := []
  fz := 0
  gc := false
  wk := false
  rt := false
  inv := []
@[simp] theorem h65_vars : h65.vars = [0, 1, 4, 5, 6, 7] := rfl
@[simp] theorem h65_conds : h65.conds = [11, 24] := rfl
@[simp] theorem h65_steal : h65.steal = [12, 18, 25, 27, 34] := rfl
@[simp] theorem h65_live : h65.live = [(4, [0, 1, 5, 6, 7])] := rfl
@[simp] theorem h65_roots : h65.roots = [] := rfl
@[simp] theorem h65_rets : h65.rets = true := rfl
@[simp] theorem h65_glob : h65.glob = [] := rfl
@[simp] theorem h65_sw : h65.sw = [] := rfl
@[simp] theorem h65_msd : h65.msd = [] := rfl
@[simp] theorem h65_alt : h65.alt = [] := rfl
@[simp] theorem h65_fz : h65.fz = 0 := rfl
@[simp] theorem h65_gc : h65.gc = false := rfl
@[simp] theorem h65_wk : h65.wk = false := rfl
@[simp] theorem h65_rt : h65.rt = false := rfl
@[simp] theorem h65_inv : h65.inv = [] := rfl
def h66 : Hint where
  vars := [0, 2, 3, 4]
  conds := [8, 20, 30, 32]
  steal := [9, 15, 21, 31, 33]
  live := [(3, [0, 3, 4])]
  roots := []
  rets := true
  glob := []
  sw := []
  msd := []
  alt := []
  fz := 0
  gc := false
  wk := false
  rt := false
  inv := []
@[simp] theorem h66_vars : h66.vars = [0, 2, 3, 4] := rfl
@[simp] theorem h66_conds : h66.conds = [8, 20, 30, 32] := rfl
@[simp] theorem h66_steal : h66.steal = [9, 15, 21, 31, 33] := rfl
@[simp] theorem h66_live : h66.live = [(3, [0, 3, 4])] := rfl
@[simp] theorem h66_roots : h66.roots = [] := rfl
@[simp] theorem h66_rets : h66.rets = true := rfl
@[simp] theorem h66_glob : h66.glob = [] := rfl
@[simp] theorem h66_sw : h66.sw = [] := rfl
@[simp] theorem h66_msd : h66.msd = [] := rfl
@[simp] theorem h66_alt : h66.alt = [] := rfl
@[simp] theorem h66_fz : h66.fz = 0 := rfl
@[simp] theorem h66_gc : h66.gc = false := rfl
@[simp] theorem h66_wk : h66.wk = false := rfl
@[simp] theorem h66_rt : h66.rt = false := rfl
@[simp] theorem h66_inv : h66.inv = [] := rfl
def h67 : Hint where
  vars := [0, 1, 4]
  conds := []
  steal := [10, 12, 18]
  live := []
  roots := []
  rets := true
  glob := []
  sw := []
  msd := []
  alt := []
  fz := 0
  gc := false
  wk := false
  rt := false
  inv := []
@[simp] theorem h67_vars : h67.vars = [0, 1, 4] := rfl
@[simp] theorem h67_conds : h67.conds = [] := rfl
@[simp] theorem h67_steal : h67.steal = [10, 12, 18] := rfl
@[simp] theorem h67_live : h67.live = [] := rfl
@[simp] theorem h67_roots : h67.roots = [] := rfl
@[simp] theorem h67_rets : h67.rets = true := rfl
@[simp] theorem h67_glob : h67.glob = [] := rfl
@[simp] theorem h67_sw : h67.sw = [] := rfl
@[simp] theorem h67_msd : h67.msd = [] := rfl
@[simp] theorem h67_alt : h67.alt = [] := rfl
@[simp] theorem h67_fz : h67.fz = 0 := rfl
@[simp] theorem h67_gc : h67.gc = false := rfl
@[simp] theorem h67_wk : h67.wk = false := rfl
@[simp] theorem h67_rt : h67.rt = false := rfl
@[simp] theorem h67_inv : h67.inv = [] := rfl
def h68 : Hint where
  vars := [0, 1, 4]
  conds := []
  steal := [8, 12]
  live := []
  roots := []
  rets := true
  glob := []
  sw := []
  msd := [11]
  alt := []
  fz := 0
  gc := false
  wk := false
  rt := false
  inv := []
@[simp] theorem h68_vars : h68.vars = [0, 1, 4] := rfl
@[simp] theorem h68_conds : h68.conds = [] := rfl
@[simp] theorem h68_steal : h68.steal = [8, 12] := rfl
@[simp] theorem h68_live : h68.live = [] := rfl
@[simp] theorem h68_roots : h68.roots = [] := rfl
@[simp] theorem h68_rets : h68.rets = true := rfl
@[simp] theorem h68_glob : h68.glob = [] := rfl
@[simp] theorem h68_sw : h68.sw = [] := rfl
@[simp] theorem h68_msd : h68.msd = [11] := rfl
@[simp] theorem h68_alt : h68.alt = [] := rfl
@[simp] theorem h68_fz : h68.fz = 0 := rfl
@[simp] theorem h68_gc : h68.gc = false := rfl
@[simp] theorem h68_wk : h68.wk = false := rfl
@[simp] theorem h68_rt : h68.rt = false := rfl
@[simp] theorem h68_inv : h68.inv = [] := rfl
def h69 : Hint where
  vars := [0, 2]
  conds := []
  steal := []
  live := []
  roots := []
  rets := true
  glob := []
  sw := []
  msd := []
  alt := []
  fz := 0
  gc := false
  wk := false
  rt := false
  inv := []
@[simp] theorem h69_vars : h69.vars = [0, 2] := rfl
@[simp] theorem h69_conds : h69.conds = [] := rfl
@[simp] theorem h69_steal : h69.steal = [] := rfl
@[simp] theorem h69_live : h69.live = [] := rfl
@[simp] theorem h69_roots : h69.roots = [] := rfl
@[simp] theorem h69_rets : h69.rets = true := rfl
@[simp] theorem h69_glob : h69.glob = [] := rfl
@[simp] theorem h69_sw : h69.sw = [] := rfl
@[simp] theorem h69_msd : h69.msd = [] := rfl
@[simp] theorem h69_alt : h69.alt = [] := rfl
@[simp] theorem h69_fz : h69.fz = 0 := rfl
@[simp] theorem h69_gc : h69.gc = false := rfl
@[simp] theorem h69_wk : h69.wk = false := rfl
@[simp] theorem h69_rt : h69.rt = false := rfl
@[simp] theorem h69_inv : h69.inv = [] := rfl
def h70 : Hint where
  vars := [0, 2, 3, 4, 5, 6, 7, 8, 9, 10, 12, 44, 72, 73]
  conds := [21, 40, 45, 62, 74]
  steal := [22, 32, 41, 47, 51, 63, 76, 86, 91]
  live := [(5, [0, 3, 4, 5, 6]), (9, [0, 3, 4, 7]), (12, [0, 3, 4, 7, 44]), (17, [3, 4, 7, 9]), (22, [10, 72, 73])]
  roots := [(4, 4)]
  rets := true
  glob := [3]
  sw := [30, 71]
  msd := []
  alt := []
  fz := 0
  gc := true
  wk := false
  rt := false
  inv := []
@[simp] theorem h70_vars : h70.vars = [0, 2, 3, 4, 5, 6, 7, 8, 9, 10, 12, 44, 72, 73] := rfl
@[simp] theorem h70_conds : h70.conds = [21, 40, 45, 62, 74] := rfl
@[simp] theorem h70_steal : h70.steal = [22, 32, 41, 47, 51, 63, 76, 86, 91] := rfl
@[simp] theorem h70_live : h70.live = [(5, [0, 3, 4, 5, 6]), (9, [0, 3, 4, 7]), (12, [0, 3, 4, 7, 44]), (17, [3, 4, 7, 9]), (22, [10, 72, 73])] := rfl
@[simp] theorem h70_roots : h70.roots = [(4, 4)] := rfl
@[simp] theorem h70_rets : h70.rets = true := rfl
@[simp] theorem h70_glob : h70.glob = [3] := rfl
@[simp] theorem h70_sw : h70.sw = [30, 71] := rfl
@[simp] theorem h70_msd : h70.msd = [] := rfl
@[simp] theorem h70_alt : h70.alt = [] := rfl
@[simp] theorem h70_fz : h70.fz = 0 := rfl
@[simp] theorem h70_gc : h70.gc = true := rfl
@[simp] theorem h70_wk : h70.wk = false := rfl
@[simp] theorem h70_rt : h70.rt = false := rfl
@[simp] theorem h70_inv : h70.inv = [] := rfl
def h71 : Hint where
  vars := [0, 2, 3]
  conds := [5]
  steal := [6, 8, 11]
  live := [(2, [0, 3])]
  roots := []
  rets := true
  glob := []
  sw := []
  msd := []
  alt := []
  fz := 0
  gc := false
  wk := false
  rt := false
  inv := []
@[simp] theorem h71_vars : h71.vars = [0, 2, 3] := rfl
@[simp] theorem h71_conds : h71.conds = [5] := rfl
@[simp] theorem h71_steal : h71.steal = [6, 8, 11] := rfl
@[simp] theorem h71_live : h71.live = [(2, [0, 3])] := rfl
@[simp] theorem h71_roots : h71.roots = [] := rfl
@[simp] theorem h71_rets : h71.rets = true := rfl
@[simp] theorem h71_glob : h71.glob = [] := rfl
@[simp] theorem h71_sw : h71.sw = [] := rfl
@[simp] theorem h71_msd : h71.msd = [] := rfl
@[simp] theorem h71_alt : h71.alt = [] := rfl
@[simp] theorem h71_fz : h71.fz = 0 := rfl
@[simp] theorem h71_gc : h71.gc = false := rfl
@[simp] theorem h71_wk : h71.wk = false := rfl
@[simp] theorem h71_rt : h71.rt = false := rfl
@[simp] theorem h71_inv : h71.inv = [] := rfl
def h72 : Hint where
  vars := [0, 2]
  conds := []
  steal := [4]
  live := []
  roots := []
  rets := true
  glob := []
  sw := []
  msd := []
  alt := []
  fz := 0
  gc := false
  wk := false
  rt := false
  inv := []
@[simp] theorem h72_vars : h72.vars = [0, 2] := rfl
@[simp] theorem h72_conds : h72.conds = [] := rfl
@[simp] theorem h72_steal : h72.steal = [4] := rfl
@[simp] theorem h72_live : h72.live = [] := rfl
@[simp] theorem h72_roots : h72.roots = [] := rfl
@[simp] theorem h72_rets : h72.rets = true := rfl
@[simp] theorem h72_glob : h72.glob = [] := rfl
@[simp] theorem h72_sw : h72.sw = [] := rfl
@[simp] theorem h72_msd : h72.msd = [] := rfl
@[simp] theorem h72_alt : h72.alt = [] := rfl
@[simp] theorem h72_fz : h72.fz = 0 := rfl
@[simp] theorem h72_gc : h72.gc = false := rfl
@[simp] theorem h72_wk : h72.wk = false := rfl
@[simp] theorem h72_rt : h72.rt = false := rfl
@[simp] theorem h72_inv : h72.inv = [] := rfl
def h73 : Hint where
  vars := [0, 1, 4, 5]
  conds := []
  steal := [7, 9, 10]
  live := []
  roots := []
  rets := true
  glob := []
  sw := []
  msd := []
  alt := []
  fz := 0
  gc := false
  wk := false
  rt := false
  inv := []
@[simp] theorem h73_vars : h73.vars = [0, 1, 4, 5] := rfl
@[simp] theorem h73_conds : h73.conds = [] := rfl
@[simp] theorem h73_steal : h73.steal = [7, 9, 10] := rfl
@[simp] theorem h73_live : h73.live = [] := rfl
@[simp] theorem h73_roots : h73.roots = [] := rfl
@[simp] theorem h73_rets : h73.rets = true := rfl
@[simp] theorem h73_glob : h73.glob = [] := rfl
@[simp] theorem h73_sw : h73.sw = [] := rfl
@[simp] theorem h73_msd : h73.msd = [] := rfl
@[simp] theorem h73_alt : h73.alt = [] := rfl
@[simp] theorem h73_fz : h73.fz = 0 := rfl
@[simp] theorem h73_gc : h73.gc = false := rfl
@[simp] theorem h73_wk : h73.wk = false := rfl
@[simp] theorem h73_rt : h73.rt = false := rfl
@[simp] theorem h73_inv : h73.inv = [] := rfl
def h74 : Hint where
  vars := [0, 2, 3, 4, 5, 6, 7, 8, 9, 10, 11, 12, 13, 14, 15, 16, 17, 18, 19, 20, 21, 22, 23, 24]
  conds := [34, 43, 58, 62, 102, 167, 284, 300]
  steal := [35, 38, 44, 46, 59, 63, 103, 168, 285, 301, 303, 329]
  live := [(4, [0, 3, 4, 5]), (8, [3, 4, 5, 6, 7]), (13, [3, 4, 5, 8, 9]), (16, [3, 4, 5, 8, 9, 10]), (21, [3, 4, 5, 8, 9, 12]), (28, [3, 4, 5, 8, 9, 15, 16]), (37, [3, 4, 5, 8, 9, 15, 22]), (42, [4, 23, 24])]
  roots := []
  rets := true
  glob := [26, 54]
  sw := [100, 162, 298]
  msd := [26, 54, 165]
  alt := []
  fz := 0
  gc := true
  wk := false
  rt := false
  inv := []
@[simp] theorem h74_vars : h74.vars = [0, 2, 3, 4, 5, 6, 7, 8, 9, 10, 11, 12, 13, 14, 15, 16, 17, 18, 19, 20, 21, 22, 23, 24] := rfl
@[simp] theorem h74_conds : h74.conds = [34, 43, 58, 62, 102, 167, 284, 300] := rfl
@[simp] theorem h74_steal : h74.steal = [35, 38, 44, 46, 59, 63, 103, 168, 285, 301, 303, 329] := rfl
@[simp] theorem h74_live : h74.live = [(4, [0, 3, 4, 5]), (8, [3, 4, 5, 6, 7]), (13, [3, 4, 5, 8, 9]), (16, [3, 4, 5, 8, 9, 10]), (21, [3, 4, 5, 8, 9, 12]), (28, [3, 4, 5, 8, 9, 15, 16]), (37, [3, 4, 5, 8, 9, 15, 22]), (42, [4, 23, 24])] := rfl
@[simp] theorem h74_roots : h74.roots = [] := rfl
@[simp] theorem h74_rets : h74.rets = true := rfl
@[simp] theorem h74_glob : h74.glob = [26, 54] := rfl
@[simp] theorem h74_sw : h74.sw = [100, 162, 298] := rfl
@[simp] theorem h74_msd : h74.msd = [26, 54, 165] := rfl
@[simp] theorem h74_alt : h74.alt = [] := rfl
@[simp] theorem h74_fz : h74.fz = 0 := rfl
@[simp] theorem h74_gc : h74.gc = true := rfl
@[simp] theorem h74_wk : h74.wk = false := rfl
@[simp] theorem h74_rt : h74.rt = false := rfl
@[simp] theorem h74_inv : h74.inv = [] := rfl
def h80 : Hint where
  vars := [0, 1, 3, 4, 5, 6, 7]
  conds := [10, 29]
  steal := []
  live := []
  roots := [(6, 6), (7, 7), (14, 3), (18, 3), (22, 3)]
  rets := true
  glob := []
  sw := [32, 40]
  msd := []
  alt := []
  fz := 0
  gc := false
  wk := false
  rt := false
  inv := []
@[simp] theorem h80_vars : h80.vars = [0, 1, 3, 4, 5, 6, 7] := rfl
@[simp] theorem h80_conds : h80.conds = [10, 29] := rfl
@[simp] theorem h80_steal : h80.steal = [] := rfl
@[simp] theorem h80_live : h80.live = [] := rfl
@[simp] theorem h80_roots : h80.roots = [(6, 6), (7, 7), (14, 3), (18, 3), (22, 3)] := rfl
@[simp] theorem h80_rets : h80.rets = true := rfl
@[simp] theorem h80_glob : h80.glob = [] := rfl
@[simp] theorem h80_sw : h80.sw = [32, 40] := rfl
@[simp] theorem h80_msd : h80.msd = [] := rfl
@[simp] theorem h80_alt : h80.alt = [] := rfl
@[simp] theorem h80_fz : h80.fz = 0 := rfl
@[simp] theorem h80_gc : h80.gc = false := rfl
@[simp] theorem h80_wk : h80.wk = false := rfl
@[simp] theorem h80_rt : h80.rt = false := rfl
@[simp] theorem h80_inv : h80.inv = [] := rfl
def h81 : Hint where
  vars := [0, 1, 4]
  conds := []
  steal := [5, 7]
  live := []
  roots := []
  rets := true
  glob := []
  sw := []
  msd := []
  alt := []
  fz := 0
  gc := false
  wk := false
  rt := false
  inv := []
@[simp] theorem h81_vars : h81.vars = [0, 1, 4] := rfl
@[simp] theorem h81_conds : h81.conds = [] := rfl
@[simp] theorem h81_steal : h81.steal = [5, 7] := rfl
@[simp] theorem h81_live : h81.live = [] := rfl
@[simp] theorem h81_roots : h81.roots = [] := rfl
@[simp] theorem h81_rets : h81.rets = true := rfl
@[simp] theorem h81_glob : h81.glob = [] := rfl
@[simp] theorem h81_sw : h81.sw = [] := rfl
@[simp] theorem h81_msd : h81.msd = [] := rfl
@[simp] theorem h81_alt : h81.alt = [] := rfl
@[simp] theorem h81_fz : h81.fz = 0 := rfl
@[simp] theorem h81_gc : h81.gc = false := rfl
@[simp] theorem h81_wk : h81.wk = false := rfl
@[simp] theorem h81_rt : h81.rt = false := rfl
@[simp] theorem h81_inv : h81.inv = [] := rfl
def h82 : Hint where
  vars := [0, 1, 2, 3, 8, 9, 10]
  conds := [12, 29]
  steal := [13, 23, 30, 31, 32, 33, 35, 37, 38, 39, 42, 43, 45]
  live := []
  roots := []
  rets := true
  glob := []
  sw := []
  msd := []
  alt := []
  fz := 0
  gc := false
  wk := false
  rt := false
  inv := []
@[simp] theorem h82_vars : h82.vars = [0, 1, 2, 3, 8, 9, 10] := rfl
@[simp] theorem h82_conds : h82.conds = [12, 29] := rfl
@[simp] theorem h82_steal : h82.steal = [13, 23, 30, 31, 32, 33, 35, 37, 38, 39, 42, 43, 45] := rfl
@[simp] theorem h82_live : h82.live = [] := rfl
@[simp] theorem h82_roots : h82.roots = [] := rfl
@[simp] theorem h82_rets : h82.rets = true := rfl
@[simp] theorem h82_glob : h82.glob = [] := rfl
@[simp] theorem h82_sw : h82.sw = [] := rfl
@[simp] theorem h82_msd : h82.msd = [] := rfl
@[simp] theorem h82_alt : h82.alt = [] := rfl
@[simp] theorem h82_fz : h82.fz = 0 := rfl
@[simp] theorem h82_gc : h82.gc = false := rfl
@[simp] theorem h82_wk : h82.wk = false := rfl
@[simp] theorem h82_rt : h82.rt = false := rfl
@[simp] theorem h82_inv : h82.inv = [] := rfl
def h86 : Hint where
  vars := [0, 1, 4, 5, 6]
  conds := [8, 13]
  steal := [14, 15, 18, 19, 21, 23]
  live := [(2, [0, 1, 5])]
  roots := []
  rets := true
  glob := []
  sw := []
  msd := []
  alt := []
  fz := 0
  gc := false
  wk := false
  rt := false
  inv := []
@[simp] theorem h86_vars : h86.vars = [0, 1, 4, 5, 6] := rfl
@[simp] theorem h86_conds : h86.conds = [8, 13] := rfl
@[simp] theorem h86_steal : h86.steal = [14, 15, 18, 19, 21, 23] := rfl
@[simp] theorem h86_live : h86.live = [(2, [0, 1, 5])] := rfl
@[simp] theorem h86_roots : h86.roots = [] := rfl
@[simp] theorem h86_rets : h86.rets = true := rfl
@[simp] theorem h86_glob : h86.glob = [] := rfl
@[simp] theorem h86_sw : h86.sw = [] := rfl
@[simp] theorem h86_msd : h86.msd = [] := rfl
@[simp] theorem h86_alt : h86.alt = [] := rfl
@[simp] theorem h86_fz : h86.fz = 0 := rfl
@[simp] theorem h86_gc : h86.gc = false := rfl
@[simp] theorem h86_wk : h86.wk = false := rfl
@[simp] theorem h86_rt : h86.rt = false := rfl
@[simp] theorem h86_inv : h86.inv = [] := rfl
def h91 : Hint where
  vars := [0, 2, 3]
  conds := [5, 11]
  steal := [6, 12]
  live := [(2, [0, 3])]
  roots := []
  rets := true
  glob := []
  sw := []
  msd := []
  alt := []
  fz := 0
  gc := false
  wk := false
  rt := false
  inv := []
@[simp] theorem h91_vars : h91.vars = [0, 2, 3] := rfl
@[simp] theorem h91_conds : h91.conds = [5, 11] := rfl
@[simp] theorem h91_steal : h91.steal = [6, 12] := rfl
@[simp] theorem h91_live : h91.live = [(2, [0, 3])] := rfl
@[simp] theorem h91_roots : h91.roots = [] := rfl
@[simp] theorem h91_rets : h91.rets = true := rfl
@[simp] theorem h91_glob : h91.glob = [] := rfl
@[simp] theorem h91_sw : h91.sw = [] := rfl
@[simp] theorem h91_msd : h91.msd = [] := rfl
@[simp] theorem h91_alt : h91.alt = [] := rfl
@[simp] theorem h91_fz : h91.fz = 0 := rfl
@[simp] theorem h91_gc : h91.gc = false := rfl
@[simp] theorem h91_wk : h91.wk = false := rfl
@[simp] theorem h91_rt : h91.rt = false := rfl
@[simp] theorem h91_inv : h91.inv = [] := rfl
def h92 : Hint where
  vars := [0, 2, 3]
  conds := [7]
  steal := [8, 10]
  live := [(2, [0, 3])]
  roots := []
  rets := true
  glob := []
  sw := []
  msd := []
  alt := []
  fz := 0
  gc := false
  wk := false
  rt := false
  inv := []
@[simp] theorem h92_vars : h92.vars = [0, 2, 3] := rfl
@[simp] theorem h92_conds : h92.conds = [7] := rfl
@[simp] theorem h92_steal : h92.steal = [8, 10] := rfl
@[simp] theorem h92_live : h92.live = [(2, [0, 3])] := rfl
@[simp] theorem h92_roots : h92.roots = [] := rfl
@[simp] theorem h92_rets : h92.rets = true := rfl
@[simp] theorem h92_glob : h92.glob = [] := rfl
@[simp] theorem h92_sw : h92.sw = [] := rfl
@[simp] theorem h92_msd : h92.msd = [] := rfl
@[simp] theorem h92_alt : h92.alt = [] := rfl
@[simp] theorem h92_fz : h92.fz = 0 := rfl
@[simp] theorem h92_gc : h92.gc = false := rfl
@[simp] theorem h92_wk : h92.wk = false := rfl
@[simp] theorem h92_rt : h92.rt = false := rfl
@[simp] theorem h92_inv : h92.inv = [] := rfl
def h93 : Hint where
  vars := [0, 1, 4, 5, 6, 7, 8, 9, 10, 11, 42]
  conds := [12, 14, 18, 34, 40, 43, 49, 58, 67, 76, 85, 96, 104, 113]
  steal := [16, 20, 24, 28, 29, 31, 36, 52, 56, 61, 65, 70, 74, 79, 83, 88, 92, 109, 121]
  live := [(38, [7, 8, 9])]
  roots := []
  rets := true
  glob := [9]
  sw := []
  msd := []
  alt := []
  fz := 0
  gc := true
  wk := false
  rt := false
  inv := []
@[simp] theorem h93_vars : h93.vars = [0, 1, 4, 5, 6, 7, 8, 9, 10, 11, 42] := rfl
@[simp] theorem h93_conds : h93.conds = [12, 14, 18, 34, 40, 43, 49, 58, 67, 76, 85, 96, 104, 113] := rfl
@[simp] theorem h93_steal : h93.steal = [16, 20, 24, 28, 29, 31, 36, 52, 56, 61, 65, 70, 74, 79, 83, 88, 92, 109, 121] := rfl
@[simp] theorem h93_live : h93.live = [(38, [7, 8, 9])] := rfl
@[simp] theorem h93_roots : h93.roots = [] := rfl
@[simp] theorem h93_rets : h93.rets = true := rfl
@[simp] theorem h93_glob : h93.glob = [9] := rfl
@[simp] theorem h93_sw : h93.sw = [] := rfl
@[simp] theorem h93_msd : h93.msd = [] := rfl
@[simp] theorem h93_alt : h93.alt = [] := rfl
@[simp] theorem h93_fz : h93.fz = 0 := rfl
@[simp] theorem h93_gc : h93.gc = true := rfl
@[simp] theorem h93_wk : h93.wk = false := rfl
@[simp] theorem h93_rt : h93.rt = false := rfl
@[simp] theorem h93_inv : h93.inv = [] := rfl
def h94 : Hint where
  vars := [0, 2]
  conds := []
  steal := [3]
  live := []
  roots := []
  rets := true
  glob := []
  sw := []
  msd := []
  alt := []
  fz := 0
  gc := false
  wk := false
  rt := false
  inv := []
@[simp] theorem h94_vars : h94.vars = [0, 2] := rfl
@[simp] theorem h94_conds : h94.conds = [] := rfl
@[simp] theorem h94_steal : h94.steal = [3] := rfl
@[simp] theorem h94_live : h94.live = [] := rfl
@[simp] theorem h94_roots : h94.roots = [] := rfl
@[simp] theorem h94_rets : h94.rets = true := rfl
@[simp] theorem h94_glob : h94.glob = [] := rfl
@[simp] theorem h94_sw : h94.sw = [] := rfl
@[simp] theorem h94_msd : h94.msd = [] := rfl
@[simp] theorem h94_alt : h94.alt = [] := rfl
@[simp] theorem h94_fz : h94.fz = 0 := rfl
@[simp] theorem h94_gc : h94.gc = false := rfl
@[simp] theorem h94_wk : h94.wk = false := rfl
@[simp] theorem h94_rt : h94.rt = false := rfl
@[simp] theorem h94_inv : h94.inv = [] := rfl
def h95 : Hint where
  vars := [0, 1, 4, 5, 6, 7]
  conds := [12]
  steal := [22]
  live := []
  roots := []
  rets := true
  glob := []
  sw := []
  msd := []
  alt := []
  fz := 0
  gc := false
  wk := false
  rt := false
  inv := []
@[simp] theorem h95_vars : h95.vars = [0, 1, 4, 5, 6, 7] := rfl
@[simp] theorem h95_conds : h95.conds = [12] := rfl
@[simp] theorem h95_steal : h95.steal = [22] := rfl
@[simp] theorem h95_live : h95.live = [] := rfl
@[simp] theorem h95_roots : h95.roots = [] := rfl
@[simp] theorem h95_rets : h95.rets = true := rfl
@[simp] theorem h95_glob : h95.glob = [] := rfl
@[simp] theorem h95_sw : h95.sw = [] := rfl
@[simp] theorem h95_msd : h95.msd = [] := rfl
@[simp] theorem h95_alt : h95.alt = [] := rfl
@[simp] theorem h95_fz : h95.fz = 0 := rfl
@[simp] theorem h95_gc : h95.gc = false := rfl
@[simp] theorem h95_wk : h95.wk = false := rfl
@[simp] theorem h95_rt : h95.rt = false := rfl
@[simp] theorem h95_inv : h95.inv = [] := rfl
def h96 : Hint where
  vars := [0, 1, 2, 3, 8, 9, 10, 11]
  conds := [13, 15, 20, 36, 41]
  steal := [16, 17, 25, 32, 50, 51, 56, 60, 62, 63]
  live := [(11, [0, 1, 2, 3, 9, 10])]
  roots := []
  rets := true
  glob := [31]
  sw := []
  msd := [31]
  alt := []
  fz := 2
  gc := true
  wk := false
  rt := false
  inv := []
@[simp] theorem h96_vars : h96.vars = [0, 1, 2, 3, 8, 9, 10, 11] := rfl
@[simp] theorem h96_conds : h96.conds = [13, 15, 20, 36, 41] := rfl
@[simp] theorem h96_steal : h96.steal = [16, 17, 25, 32, 50, 51, 56, 60, 62, 63] := rfl
@[simp] theorem h96_live : h96.live = [(11, [0, 1, 2, 3, 9, 10])] := rfl
@[simp] theorem h96_roots : h96.roots = [] := rfl
@[simp] theorem h96_rets : h96.rets = true := rfl
@[simp] theorem h96_glob : h96.glob = [31] := rfl
@[simp] theorem h96_sw : h96.sw = [] := rfl
@[simp] theorem h96_msd : h96.msd = [31] := rfl
@[simp] theorem h96_alt : h96.alt = [] := rfl
@[simp] theorem h96_fz : h96.fz = 2 := rfl
@[simp] theorem h96_gc : h96.gc = true := rfl
@[simp] theorem h96_wk : h96.wk = false := rfl
@[simp] theorem h96_rt : h96.rt = false := rfl
@[simp] theorem h96_inv : h96.inv = [] := rfl
def h97 : Hint where
  vars := [0, 2, 3, 4, 5]
  conds := [12]
  steal := [6, 10, 13, 14, 15, 17]
  live := []
  roots := []
  rets := true
  glob := []
  sw := []
  msd := []
  alt := []
  fz := 0
  gc := false
  wk := false
  rt := false
  inv := []
@[simp] theorem h97_vars : h97.vars = [0, 2, 3, 4, 5] := rfl
@[simp] theorem h97_conds : h97.conds = [12] := rfl
@[simp] theorem h97_steal : h97.steal = [6, 10, 13, 14, 15, 17] := rfl
@[simp] theorem h97_live : h97.live = [] := rfl
@[simp] theorem h97_roots : h97.roots = [] := rfl
@[simp] theorem h97_rets : h97.rets = true := rfl
@[simp] theorem h97_glob : h97.glob = [] := rfl
@[simp] theorem h97_sw : h97.sw = [] := rfl
@[simp] theorem h97_msd : h97.msd = [] := rfl
@[simp] theorem h97_alt : h97.alt = [] := rfl
@[simp] theorem h97_fz : h97.fz = 0 := rfl
@[simp] theorem h97_gc : h97.gc = false := rfl
@[simp] theorem h97_wk : h97.wk = false := rfl
@[simp] theorem h97_rt : h97.rt = false := rfl
@[simp] theorem h97_inv : h97.inv = [] := rfl
def h98 : Hint where
  vars := [0, 1, 2, 3, 8, 9, 10, 11, 12, 14, 15, 52, 53, 77, 78]
  conds := [22, 28, 36, 51, 54, 79]
  steal := [19, 23, 29, 32, 37, 52, 63, 69, 76, 80, 86, 88, 91, 97, 99, 100]
  live := [(13, [0, 1, 2, 10, 11, 52, 53]), (21, [0, 2, 10, 11, 77, 78])]
  roots := []
  rets := true
  glob := [10]
  sw := []
  msd := []
  alt := []
  fz := 0
  gc := true
  wk := false
  rt := false
  inv := []
@[simp] theorem h98_vars : h98.vars = [0, 1, 2, 3, 8, 9, 10, 11, 12, 14, 15, 52, 53, 77, 78] := rfl
@[simp] theorem h98_conds : h98.conds = [22, 28, 36, 51, 54, 79] := rfl
@[simp] theorem h98_steal : h98.steal = [19, 23, 29, 32, 37, 52, 63, 69, 76, 80, 86, 88, 91, 97, 99, 100] := rfl
@[simp] theorem h98_live : h98.live = [(13, [0, 1, 2, 10, 11, 52, 53]), (21, [0, 2, 10, 11, 77, 78])] := rfl
@[simp] theorem h98_roots : h98.roots = [] := rfl
@[simp] theorem h98_rets : h98.rets = true := rfl
@[simp] theorem h98_glob : h98.glob = [10] := rfl
@[simp] theorem h98_sw : h98.sw = [] := rfl
@[simp] theorem h98_msd : h98.msd = [] := rfl
@[simp] theorem h98_alt : h98.alt = [] := rfl
@[simp] theorem h98_fz : h98.fz = 0 := rfl
@[simp] theorem h98_gc : h98.gc = true := rfl
@[simp] theorem h98_wk : h98.wk = false := rfl
@[simp] theorem h98_rt : h98.rt = false := rfl
@[simp] theorem h98_inv : h98.inv = [] := rfl
def h99 : Hint where
  vars := [0, 1]
  conds := [7, 21]
  steal := [22, 23]
  live := []
  roots := []
  rets := true
  glob := []
  sw := []
  msd := []
  alt := []
  fz := 0
  gc := false
  wk := false
  rt := false
  inv := []
@[simp] theorem h99_vars : h99.vars = [0, 1] := rfl
@[simp] theorem h99_conds : h99.conds = [7, 21] := rfl
@[simp] theorem h99_steal : h99.steal = [22, 23] := rfl
@[simp] theorem h99_live : h99.live = [] := rfl
@[simp] theorem h99_roots : h99.roots = [] := rfl
@[simp] theorem h99_rets : h99.rets = true := rfl
@[simp] theorem h99_glob : h99.glob = [] := rfl
@[simp] theorem h99_sw : h99.sw = [] := rfl
@[simp] theorem h99_msd : h99.msd = [] := rfl
@[simp] theorem h99_alt : h99.alt = [] := rfl
@[simp] theorem h99_fz : h99.fz = 0 := rfl
@[simp] theorem h99_gc : h99.gc = false := rfl
@[simp] theorem h99_wk : h99.wk = false := rfl
@[simp] theorem h99_rt : h99.rt = false := rfl
@[simp] theorem h99_inv : h99.inv = [] := rfl
def h100 : Hint where
  vars := [0, 1, 4, 5]
  conds := []
  steal := [9, 17]
  live := []
  roots := []
  rets := true
  glob := []
  sw := []
  msd := [12]
  alt := []
  fz := 0
  gc := false
  wk := false
  rt := false
  inv := []
@[simp] theorem h100_vars : h100.vars = [0, 1, 4, 5] := rfl
@[simp] theorem h100_conds : h100.conds = [] := rfl
@[simp] theorem h100_steal : h100.steal = [9, 17] := rfl
@[simp] theorem h100_live : h100.live = [] := rfl
@[simp] theorem h100_roots : h100.roots = [] := rfl
@[simp] theorem h100_rets : h100.rets = true := rfl
@[simp] theorem h100_glob : h100.glob = [] := rfl
@[simp] theorem h100_sw : h100.sw = [] := rfl
@[simp] theorem h100_msd : h100.msd = [12] := rfl
@[simp] theorem h100_alt : h100.alt = [] := rfl
@[simp] theorem h100_fz : h100.fz = 0 := rfl
@[simp] theorem h100_gc : h100.gc = false := rfl
@[simp] theorem h100_wk : h100.wk = false := rfl
@[simp] theorem h100_rt : h100.rt = false := rfl
@[simp] theorem h100_inv : h100.inv = [] := rfl
def h101 : Hint where
  vars := [0, 2, 3]
  conds := [7]
  steal := [8, 10]
  live := [(2, [0, 3])]
  roots := []
  rets := true
  glob := []
  sw := []
  msd := []
  alt := []
  fz := 0
  gc := false
  wk := false
  rt := false
  inv := []
@[simp] theorem h101_vars : h101.vars = [0, 2, 3] := rfl
@[simp] theorem h101_conds : h101.conds = [7] := rfl
@[simp] theorem h101_steal : h101.steal = [8, 10] := rfl
@[simp] theorem h101_live : h101.live = [(2, [0, 3])] := rfl
@[simp] theorem h101_roots : h101.roots = [] := rfl
@[simp] theorem h101_rets : h101.rets = true := rfl
@[simp] theorem h101_glob : h101.glob = [] := rfl
@[simp] theorem h101_sw : h101.sw = [] := rfl
@[simp] theorem h101_msd : h101.msd = [] := rfl
@[simp] theorem h101_alt : h101.alt = [] := rfl
@[simp] theorem h101_fz : h101.fz = 0 := rfl
@[simp] theorem h101_gc : h101.gc = false := rfl
@[simp] theorem h101_wk : h101.wk = false := rfl
@[simp] theorem h101_rt : h101.rt = false := rfl
@[simp] theorem h101_inv : h101.inv = [] := rfl
def h102 : Hint where
  vars := [0, 1, 4]
  conds := []
  steal := [6, 8]
  live := []
  roots := []
  rets := true
  glob := []
  sw := []
  msd := []
  alt := []
  fz := 0
  gc := false
  wk := false
  rt := false
  inv := []
@[simp] theorem h102_vars : h102.vars = [0, 1, 4] := rfl
@[simp] theorem h102_conds : h102.conds = [] := rfl
@[simp] theorem h102_steal : h102.steal = [6, 8] := rfl
@[simp] theorem h102_live : h102.live = [] := rfl
@[simp] theorem h102_roots : h102.roots = [] := rfl
@[simp] theorem h102_rets : h102.rets = true := rfl
@[simp] theorem h102_glob : h102.glob = [] := rfl
@[simp] theorem h102_sw : h102.sw = [] := rfl
@[simp] theorem h102_msd : h102.msd = [] := rfl
@[simp] theorem h102_alt : h102.alt = [] := rfl
@[simp] theorem h102_fz : h102.fz = 0 := rfl
@[simp] theorem h102_gc : h102.gc = false := rfl
@[simp] theorem h102_wk : h102.wk = false := rfl
@[simp] theorem h102_rt : h102.rt = false := rfl
@[simp] theorem h102_inv : h102.inv = [] := rfl
def h104 : Hint where
  vars := [0]
  conds := []
  steal := []
  live := []
  roots := []
  rets := true
  glob := []
  sw := []
  msd := []
  alt := []
  fz := 0
  gc := false
  wk := false
  rt := false
  inv := []
@[simp] theorem h104_vars : h104.vars = [0] := rfl
@[simp] theorem h104_conds : h104.conds = [] := rfl
@[simp] theorem h104_steal : h104.steal = [] := rfl
@[simp] theorem h104_live : h104.live = [] := rfl
@[simp] theorem h104_roots : h104.roots = [] := rfl
@[simp] theorem h104_rets : h104.rets = true := rfl
@[simp] theorem h104_glob : h104.glob = [] := rfl
@[simp] theorem h104_sw : h104.sw = [] := rfl
@[simp] theorem h104_msd : h104.msd = [] := rfl
@[simp] theorem h104_alt : h104.alt = [] := rfl
@[simp] theorem h104_fz : h104.fz = 0 := rfl
@[simp] theorem h104_gc : h104.gc = false := rfl
@[simp] theorem h104_wk : h104.wk = false := rfl
@[simp] theorem h104_rt : h104.rt = false := rfl
@[simp] theorem h104_inv : h104.inv = [] := rfl
def h105 : Hint where
  vars := [0]
  conds := []
  steal := []
  live := []
  roots := []
  rets := true
  glob := []
  sw := []
  msd := []
  alt := []
  fz := 0
  gc := false
  wk := false
  rt := false
  inv := []
@[simp] theorem h105_vars : h105.vars = [0] := rfl
@[simp] theorem h105_conds : h105.conds = [] := rfl
@[simp] theorem h105_steal : h105.steal = [] := rfl
@[simp] theorem h105_live : h105.live = [] := rfl
@[simp] theorem h105_roots : h105.roots = [] := rfl
@[simp] theorem h105_rets : h105.rets = true := rfl
@[simp] theorem h105_glob : h105.glob = [] := rfl
@[simp] theorem h105_sw : h105.sw = [] := rfl
@[simp] theorem h105_msd : h105.msd = [] := rfl
@[simp] theorem h105_alt : h105.alt = [] := rfl
@[simp] theorem h105_fz : h105.fz = 0 := rfl
@[simp] theorem h105_gc : h105.gc = false := rfl
@[simp] theorem h105_wk : h105.wk = false := rfl
@[simp] theorem h105_rt : h105.rt = false := rfl
@[simp] theorem h105_inv : h105.inv = [] := rfl
def h106 : Hint where
  vars := [0, 1, 2, 3, 6, 7, 8, 9, 10, 11, 12, 13, 14, 15, 19, 112]
  conds := [20, 113]
  steal := [16, 90, 92, 102]
  live := [(4, [2, 3, 6, 7, 8, 19]), (14, [3, 6, 8, 112])]
  roots := [(22, 8), (25, 8), (29, 8), (45, 8), (58, 7), (61, 8), (64, 8), (68, 8), (116, 8), (119, 3), (122, 8)]
  rets := true
  glob := []
  sw := [27, 66]
  msd := []
  alt := []
  fz := 0
  gc := false
  wk := false
  rt := false
  inv := []
@[simp] theorem h106_vars : h106.vars = [0, 1, 2, 3, 6, 7, 8, 9, 10, 11, 12, 13, 14, 15, 19, 112] := rfl
@[simp] theorem h106_conds : h106.conds = [20, 113] := rfl
@[simp] theorem h106_steal : h106.steal = [16, 90, 92, 102] := rfl
@[simp] theorem h106_live : h106.live = [(4, [2, 3, 6, 7, 8, 19]), (14, [3, 6, 8, 112])] := rfl
@[simp] theorem h106_roots : h106.roots = [(22, 8), (25, 8), (29, 8), (45, 8), (58, 7), (61, 8), (64, 8), (68, 8), (116, 8), (119, 3), (122, 8)] := rfl
@[simp] theorem h106_rets : h106.rets = true := rfl
@[simp] theorem h106_glob : h106.glob = [] := rfl
@[simp] theorem h106_sw : h106.sw = [27, 66] := rfl
@[simp] theorem h106_msd : h106.msd = [] := rfl
@[simp] theorem h106_alt : h106.alt = [] := rfl
@[simp] theorem h106_fz : h106.fz = 0 := rfl
@[simp] theorem h106_gc : h106.gc = false := rfl
@[simp] theorem h106_wk : h106.wk = false := rfl
@[simp] theorem h106_rt : h106.rt = false := rfl
@[simp] theorem h106_inv : h106.inv = [] := rfl
def h107 : Hint where
  vars := [0, 2]
  conds := []
  steal := [6]
  live := []
  roots := []
  rets := true
  glob := []
  sw := []
  msd := []
  alt := []
  fz := 0
  gc := false
  wk := false
  rt := false
  inv := []
@[simp] theorem h107_vars : h107.vars = [0, 2] := rfl
@[simp] theorem h107_conds : h107.conds = [] := rfl
@[simp] theorem h107_steal : h107.steal = [6] := rfl
@[simp] theorem h107_live : h107.live = [] := rfl
@[simp] theorem h107_roots : h107.roots = [] := rfl
@[simp] theorem h107_rets : h107.rets = true := rfl
@[simp] theorem h107_glob : h107.glob = [] := rfl
@[simp] theorem h107_sw : h107.sw = [] := rfl
@[simp] theorem h107_msd : h107.msd = [] := rfl
@[simp] theorem h107_alt : h107.alt = [] := rfl
@[simp] theorem h107_fz : h107.fz = 0 := rfl
@[simp] theorem h107_gc : h107.gc = false := rfl
@[simp] theorem h107_wk : h107.wk = false := rfl
@[simp] theorem h107_rt : h107.rt = false := rfl
@[simp] theorem h107_inv : h107.inv = [] := rfl
def h108 : Hint where
  vars := [0]
  conds := []
  steal := []
  live := []
  roots := []
  rets := true
  glob := []
  sw := []
  msd := []
  alt := []
  fz := 0
  gc := false
  wk := false
  rt := false
  inv := []
@[simp] theorem h108_vars : h108.vars = [0] := rfl
@[simp] theorem h108_conds : h108.conds = [] := rfl
@[simp] theorem h108_steal : h108.steal = [] := rfl
@[simp] theorem h108_live : h108.live = [] := rfl
@[simp] theorem h108_roots : h108.roots = [] := rfl
@[simp] theorem h108_rets : h108.rets = true := rfl
@[simp] theorem h108_glob : h108.glob = [] := rfl
@[simp] theorem h108_sw : h108.sw = [] := rfl
@[simp] theorem h108_msd : h108.msd = [] := rfl
@[simp] theorem h108_alt : h108.alt = [] := rfl
@[simp] theorem h108_fz : h108.fz = 0 := rfl
@[simp] theorem h108_gc : h108.gc = false := rfl
@[simp] theorem h108_wk : h108.wk = false := rfl
@[simp] theorem h108_rt : h108.rt = false := rfl
@[simp] theorem h108_inv : h108.inv = [] := rfl
def h109 : Hint where
  vars := [0, 1, 4]
  conds := []
  steal := []
  live := []
  roots := []
  rets := true
  glob := []
  sw := []
  msd := []
  alt := []
  fz := 0
  gc := false
  wk := false
  rt := false
  inv := []
@[simp] theorem h109_vars : h109.vars = [0, 1, 4] := rfl
@[simp] theorem h109_conds : h109.conds = [] := rfl
@[simp] theorem h109_steal : h109.steal = [] := rfl
@[simp] theorem h109_live : h109.live = [] := rfl
@[simp] theorem h109_roots : h109.roots = [] := rfl
@[simp] theorem h109_rets : h109.rets = true := rfl
@[simp] theorem h109_glob : h109.glob = [] := rfl
@[simp] theorem h109_sw : h109.sw = [] := rfl
@[simp] theorem h109_msd : h109.msd = [] := rfl
@[simp] theorem h109_alt : h109.alt = [] := rfl
@[simp] theorem h109_fz : h109.fz = 0 := rfl
@[simp] theorem h109_gc : h109.gc = false := rfl
@[simp] theorem h109_wk : h109.wk = false := rfl
@[simp] theorem h109_rt : h109.rt = false := rfl
@[simp] theorem h109_inv : h109.inv = [] := rfl
def h111 : Hint where
  vars := [0, 1, 4, 5, 6, 7, 8, 9]
  conds := []
  steal := [10, 11, 13, 17, 18, 20, 22, 23, 24, 27, 28, 29]
  live := []
  roots := []
  rets := true
  glob := []
  sw := []
  msd := []
  alt := []
  fz := 0
  gc := false
  wk := false
  rt := false
  inv := []
@[simp] theorem h111_vars : h111.vars = [0, 1, 4, 5, 6, 7, 8, 9] := rfl
@[simp] theorem h111_conds : h111.conds = [] := rfl
@[simp] theorem h111_steal : h111.steal = [10, 11, 13, 17, 18, 20, 22, 23, 24, 27, 28, 29] := rfl
@[simp] theorem h111_live : h111.live = [] := rfl
@[simp] theorem h111_roots : h111.roots = [] := rfl
@[simp] theorem h111_rets : h111.rets = true := rfl
@[simp] theorem h111_glob : h111.glob = [] := rfl
@[simp] theorem h111_sw : h111.sw = [] := rfl
@[simp] theorem h111_msd : h111.msd = [] := rfl
@[simp] theorem h111_alt : h111.alt = [] := rfl
@[simp] theorem h111_fz : h111.fz = 0 := rfl
@[simp] theorem h111_gc : h111.gc = false := rfl
@[simp] theorem h111_wk : h111.wk = false := rfl
@[simp] theorem h111_rt : h111.rt = false := rfl
@[simp] theorem h111_inv : h111.inv = [] := rfl
def h112 : Hint where
  vars := [0, 1, 4]
  conds := []
  steal := [5, 6]
  live := []
  roots := []
  rets := true
  glob := []
  sw := []
  msd := []
  alt := []
  fz := 0
  gc := false
  wk := false
  rt := false
  inv := []
@[simp] theorem h112_vars : h112.vars = [0, 1, 4] := rfl
@[simp] theorem h112_conds : h112.conds = [] := rfl
@[simp] theorem h112_steal : h112.steal = [5, 6] := rfl
@[simp] theorem h112_live : h112.live = [] := rfl
@[simp] theorem h112_roots : h112.roots = [] := rfl
@[simp] theorem h112_rets : h112.rets = true := rfl
@[simp] theorem h112_glob : h112.glob = [] := rfl
@[simp] theorem h112_sw : h112.sw = [] := rfl
@[simp] theorem h112_msd : h112.msd = [] := rfl
@[simp] theorem h112_alt : h112.alt = [] := rfl
@[simp] theorem h112_fz : h112.fz = 0 := rfl
@[simp] theorem h112_gc : h112.gc = false := rfl
@[simp] theorem h112_wk : h112.wk = false := rfl
@[simp] theorem h112_rt : h112.rt = false := rfl
@[simp] theorem h112_inv : h112.inv = [] := rfl
def h113 : Hint where
  vars := [0, 2]
  conds := []
  steal := [3]
  live := []
  roots := []
  rets := true
  glob := []
  sw := []
  msd := []
  alt := []
  fz := 0
  gc := false
  wk := false
  rt := false
  inv := []
@[simp] theorem h113_vars : h113.vars = [0, 2] := rfl
@[simp] theorem h113_conds : h113.conds = [] := rfl
@[simp] theorem h113_steal : h113.steal = [3] := rfl
@[simp] theorem h113_live : h113.live = [] := rfl
@[simp] theorem h113_roots : h113.roots = [] := rfl
@[simp] theorem h113_rets : h113.rets = true := rfl
@[simp] theorem h113_glob : h113.glob = [] := rfl
@[simp] theorem h113_sw : h113.sw = [] := rfl
@[simp] theorem h113_msd : h113.msd = [] := rfl
@[simp] theorem h113_alt : h113.alt = [] := rfl
@[simp] theorem h113_fz : h113.fz = 0 := rfl
@[simp] theorem h113_gc : h113.gc = false := rfl
@[simp] theorem h113_wk : h113.wk = false := rfl
@[simp] theorem h113_rt : h113.rt = false := rfl
@[simp] theorem h113_inv : h113.inv = [] := rfl
def h114 : Hint where
  vars := [0, 1, 4, 5, 6, 7, 9]
  conds := [11, 17, 23, 34]
  steal := [14, 18, 24, 31, 33, 36, 40, 44, 47, 48, 52, 53]
  live := []
  roots := []
  rets := true
  glob := [5]
  sw := []
  msd := []
  alt := []
  fz := 0
  gc := true
  wk := false
  rt := false
  inv := []
@[simp] theorem h114_vars : h114.vars = [0, 1, 4, 5, 6, 7, 9] := rfl
@[simp] theorem h114_conds : h114.conds = [11, 17, 23, 34] := rfl
@[simp] theorem h114_steal : h114.steal = [14, 18, 24, 31, 33, 36, 40, 44, 47, 48, 52, 53] := rfl
@[simp] theorem h114_live : h114.live = [] := rfl
@[simp] theorem h114_roots : h114.roots = [] := rfl
@[simp] theorem h114_rets : h114.rets = true := rfl
@[simp] theorem h114_glob : h114.glob = [5] := rfl
@[simp] theorem h114_sw : h114.sw = [] := rfl
@[simp] theorem h114_msd : h114.msd = [] := rfl
@[simp] theorem h114_alt : h114.alt = [] := rfl
@[simp] theorem h114_fz : h114.fz = 0 := rfl
@[simp] theorem h114_gc : h114.gc = true := rfl
@[simp] theorem h114_wk : h114.wk = false := rfl
@[simp] theorem h114_rt : h114.rt = false := rfl
@[simp] theorem h114_inv : h114.inv = [] := rfl
def h115 : Hint where
  vars := [0, 1, 4, 5, 6, 7, 8, 9, 10, 11, 12, 13]
  conds := [16, 24, 31, 36, 59, 64, 73, 93, 107, 114, 132, 139]
  steal := [19, 27, 28, 40, 45, 46, 74, 75, 84, 94, 95, 97, 102, 108, 111, 115, 116, 121, 128, 133, 136, 140, 141]
  live := [(15, [0, 1, 5, 6, 7, 8, 9, 10])]
  roots := []
  rets := true
  glob := []
  sw := []
  msd := []
  alt := []
  fz := 0
  gc := false
  wk := false
  rt := false
  inv := []
@[simp] theorem h115_vars : h115.vars = [0, 1, 4, 5, 6, 7, 8, 9, 10, 11, 12, 13] := rfl
@[simp] theorem h115_conds : h115.conds = [16, 24, 31, 36, 59, 64, 73, 93, 107, 114, 132, 139] := rfl
@[simp] theorem h115_steal : h115.steal = [19, 27, 28, 40, 45, 46, 74, 75, 84, 94, 95, 97, 102, 108, 111, 115, 116, 121, 128, 133, 136, 140, 141] := rfl
@[simp] theorem h115_live : h115.live = [(15, [0, 1, 5, 6, 7, 8, 9, 10])] := rfl
@[simp] theorem h115_roots : h115.roots = [] := rfl
@[simp] theorem h115_rets : h115.rets = true := rfl
@[simp] theorem h115_glob : h115.glob = [] := rfl
@[simp] theorem h115_sw : h115.sw = [] := rfl
@[simp] theorem h115_msd : h115.msd = [] := rfl
@[simp] theorem h115_alt : h115.alt = [] := rfl
@[simp] theorem h115_fz : h115.fz = 0 := rfl
@[simp] theorem h115_gc : h115.gc = false := rfl
@[simp] theorem h115_wk : h115.wk = false := rfl
@[simp] theorem h115_rt : h115.rt = false := rfl
@[simp] theorem h115_inv : h115.inv = [] := rfl
def h116 : Hint where
  vars := [0, 1, 4, 5, 6, 7, 9]
  conds := [18, 25, 43]
  steal := [14, 19, 26, 28, 32, 39, 40, 45, 47, 49]
  live := [(6, [0, 1, 6, 7])]
  roots := []
  rets := true
  glob := [21]
  sw := []
  msd := [21]
  alt := []
  fz := 2
  gc := true
  wk := false
  rt := false
  inv := []
@[simp] theorem h116_vars : h116.vars = [0, 1, 4, 5, 6, 7, 9] := rfl
@[simp] theorem h116_conds : h116.conds = [18, 25, 43] := rfl
@[simp] theorem h116_steal : h116.steal = [14, 19, 26, 28, 32, 39, 40, 45, 47, 49] := rfl
@[simp] theorem h116_live : h116.live = [(6, [0, 1, 6, 7])] := rfl
@[simp] theorem h116_roots : h116.roots = [] := rfl
@[simp] theorem h116_rets : h116.rets = true := rfl
@[simp] theorem h116_glob : h116.glob = [21] := rfl
@[simp] theorem h116_sw : h116.sw = [] := rfl
@[simp] theorem h116_msd : h116.msd = [21] := rfl
@[simp] theorem h116_alt : h116.alt = [] := rfl
@[simp] theorem h116_fz : h116.fz = 2 := rfl
@[simp] theorem h116_gc : h116.gc = true := rfl
@[simp] theorem h116_wk : h116.wk = false := rfl
@[simp] theorem h116_rt : h116.rt = false := rfl
@[simp] theorem h116_inv : h116.inv = [] := rfl
def h117 : Hint where
  vars := [0, 1, 4, 5, 6]
  conds := [9, 15, 24]
  steal := [10, 16, 17, 25, 26, 28, 29]
  live := [(6, [0, 1, 5])]
  roots := []
  rets := true
  glob := []
  sw := []
  msd := []
  alt := []
  fz := 0
  gc := false
  wk := false
  rt := false
  inv := []
@[simp] theorem h117_vars : h117.vars = [0, 1, 4, 5, 6] := rfl
@[simp] theorem h117_conds : h117.conds = [9, 15, 24] := rfl
@[simp] theorem h117_steal : h117.steal = [10, 16, 17, 25, 26, 28, 29] := rfl
@[simp] theorem h117_live : h117.live = [(6, [0, 1, 5])] := rfl
@[simp] theorem h117_roots : h117.roots = [] := rfl
@[simp] theorem h117_rets : h117.rets = true := rfl
@[simp] theorem h117_glob : h117.glob = [] := rfl
@[simp] theorem h117_sw : h117.sw = [] := rfl
@[simp] theorem h117_msd : h117.msd = [] := rfl
@[simp] theorem h117_alt : h117.alt = [] := rfl
@[simp] theorem h117_fz : h117.fz = 0 := rfl
@[simp] theorem h117_gc : h117.gc = false := rfl
@[simp] theorem h117_wk : h117.wk = false := rfl
@[simp] theorem h117_rt : h117.rt = false := rfl
@[simp] theorem h117_inv : h117.inv = [] := rfl
def h118 : Hint where
  vars := [0, 1, 4]
  conds := []
  steal := [5, 6]
  live := []
  roots := []
  rets := true
  glob := []
  sw := []
  msd := []
  alt := []
  fz := 0
  gc := false
  wk := false
  rt := false
  inv := []
@[simp] theorem h118_vars : h118.vars = [0, 1, 4] := rfl
@[simp] theorem h118_conds : h118.conds = [] := rfl
@[simp] theorem h118_steal : h118.steal = [5, 6] := rfl
@[simp] theorem h118_live : h118.live = [] := rfl
@[simp] theorem h118_roots : h118.roots = [] := rfl
@[simp] theorem h118_rets : h118.rets = true := rfl
@[simp] theorem h118_glob : h118.glob = [] := rfl
@[simp] theorem h118_sw : h118.sw = [] := rfl
@[simp] theorem h118_msd : h118.msd = [] := rfl
@[simp] theorem h118_alt : h118.alt = [] := rfl
@[simp] theorem h118_fz : h118.fz = 0 := rfl
@[simp] theorem h118_gc : h118.gc = false := rfl
@[simp] theorem h118_wk : h118.wk = false := rfl
@[simp] theorem h118_rt : h118.rt = false := rfl
@[simp] theorem h118_inv : h118.inv = [] := rfl
def h119 : Hint where
  vars := [0, 2, 3, 4, 5, 6, 8, 9, 10, 47, 48, 49]
  conds := [30, 39, 44, 50, 56, 66]
  steal := [16, 21, 25, 26, 35, 40, 46, 53, 58, 60, 64, 67, 69, 70, 71, 74, 75, 76]
  live := [(10, [5, 6, 47, 48, 49])]
  roots := []
  rets := true
  glob := []
  sw := []
  msd := [47]
  alt := []
  fz := 0
  gc := false
  wk := false
  rt := false
  inv := []
@[simp] theorem h119_vars : h119.vars = [0, 2, 3, 4, 5, 6, 8, 9, 10, 47, 48, 49] := rfl
@[simp] theorem h119_conds : h119.conds = [30, 39, 44, 50, 56, 66] := rfl
@[simp] theorem h119_steal : h119.steal = [16, 21, 25, 26, 35, 40, 46, 53, 58, 60, 64, 67, 69, 70, 71, 74, 75, 76] := rfl
@[simp] theorem h119_live : h119.live = [(10, [5, 6, 47, 48, 49])] := rfl
@[simp] theorem h119_roots : h119.roots = [] := rfl
@[simp] theorem h119_rets : h119.rets = true := rfl
@[simp] theorem h119_glob : h119.glob = [] := rfl
@[simp] theorem h119_sw : h119.sw = [] := rfl
@[simp] theorem h119_msd : h119.msd = [47] := rfl
@[simp] theorem h119_alt : h119.alt = [] := rfl
@[simp] theorem h119_fz : h119.fz = 0 := rfl
@[simp] theorem h119_gc : h119.gc = false := rfl
@[simp] theorem h119_wk : h119.wk = false := rfl
@[simp] theorem h119_rt : h119.rt = false := rfl
@[simp] theorem h119_inv : h119.inv = [] := rfl
def h120 : Hint where
  vars := [0, 1, 2, 3, 4, 10, 11]
  conds := [12, 19, 26, 34]
  steal := [15, 16, 22, 23, 29, 30, 31, 37, 38, 39, 42]
  live := []
  roots := []
  rets := true
  glob := []
  sw := []
  msd := []
  alt := []
  fz := 0
  gc := true
  wk := true
  rt := false
  inv := []
@[simp] theorem h120_vars : h120.vars = [0, 1, 2, 3, 4, 10, 11] := rfl
@[simp] theorem h120_conds : h120.conds = [12, 19, 26, 34] := rfl
@[simp] theorem h120_steal : h120.steal = [15, 16, 22, 23, 29, 30, 31, 37, 38, 39, 42] := rfl
@[simp] theorem h120_live : h120.live = [] := rfl
@[simp] theorem h120_roots : h120.roots = [] := rfl
@[simp] theorem h120_rets : h120.rets = true := rfl
@[simp] theorem h120_glob : h120.glob = [] := rfl
@[simp] theorem h120_sw : h120.sw = [] := rfl
@[simp] theorem h120_msd : h120.msd = [] := rfl
@[simp] theorem h120_alt : h120.alt = [] := rfl
@[simp] theorem h120_fz : h120.fz = 0 := rfl
@[simp] theorem h120_gc : h120.gc = true := rfl
@[simp] theorem h120_wk : h120.wk = true := rfl
@[simp] theorem h120_rt : h120.rt = false := rfl
@[simp] theorem h120_inv : h120.inv = [] := rfl
def h121 : Hint where
  vars := [0, 2, 3]
  conds := [10]
  steal := [6, 11, 14, 15, 18]
  live := []
  roots := []
  rets := true
  glob := []
  sw := []
  msd := []
  alt := []
  fz := 0
  gc := false
  wk := false
  rt := false
  inv := []
@[simp] theorem h121_vars : h121.vars = [0, 2, 3] := rfl
@[simp] theorem h121_conds : h121.conds = [10] := rfl
@[simp] theorem h121_steal : h121.steal = [6, 11, 14, 15, 18] := rfl
@[simp] theorem h121_live : h121.live = [] := rfl
@[simp] theorem h121_roots : h121.roots = [] := rfl
@[simp] theorem h121_rets : h121.rets = true := rfl
@[simp] theorem h121_glob : h121.glob = [] := rfl
@[simp] theorem h121_sw : h121.sw = [] := rfl
@[simp] theorem h121_msd : h121.msd = [] := rfl
@[simp] theorem h121_alt : h121.alt = [] := rfl
@[simp] theorem h121_fz : h121.fz = 0 := rfl
@[simp] theorem h121_gc : h121.gc = false := rfl
@[simp] theorem h121_wk : h121.wk = false := rfl
@[simp] theorem h121_rt : h121.rt = false := rfl
@[simp] theorem h121_inv : h121.inv = [] := rfl
def h122 : Hint where
  vars := [0, 1, 4]
  conds := []
  steal := [26, 27]
  live := []
  roots := []
  rets := true
  glob := []
  sw := []
  msd := [25]
  alt := []
  fz := 0
  gc := false
  wk := false
  rt := false
  inv := []
@[simp] theorem h122_vars : h122.vars = [0, 1, 4] := rfl
@[simp] theorem h122_conds : h122.conds = [] := rfl
@[simp] theorem h122_steal : h122.steal = [26, 27] := rfl
@[simp] theorem h122_live : h122.live = [] := rfl
@[simp] theorem h122_roots : h122.roots = [] := rfl
@[simp] theorem h122_rets : h122.rets = true := rfl
@[simp] theorem h122_glob : h122.glob = [] := rfl
@[simp] theorem h122_sw : h122.sw = [] := rfl
@[simp] theorem h122_msd : h122.msd = [25] := rfl
@[simp] theorem h122_alt : h122.alt = [] := rfl
@[simp] theorem h122_fz : h122.fz = 0 := rfl
@[simp] theorem h122_gc : h122.gc = false := rfl
@[simp] theorem h122_wk : h122.wk = false := rfl
@[simp] theorem h122_rt : h122.rt = false := rfl
@[simp] theorem h122_inv : h122.inv = [] := rfl
def h124 : Hint where
  vars := [0, 2, 3, 4, 5, 6, 7, 8, 9, 10]
  conds := [11, 14]
  steal := [56, 64]
  live := [(3, [0, 2, 3, 10])]
  roots := [(42, 3), (45, 3), (49, 3), (70, 3), (76, 3), (81, 3)]
  rets := true
  glob := []
  sw := []
  msd := []
  alt := []
  fz := 0
  gc := false
  wk := false
  rt := false
  inv := []
@[simp] theorem h124_vars : h124.vars = [0, 2, 3, 4, 5, 6, 7, 8, 9, 10] := rfl
@[simp] theorem h124_conds : h124.conds = [11, 14] := rfl
@[simp] theorem h124_steal : h124.steal = [56, 64] := rfl
@[simp] theorem h124_live : h124.live = [(3, [0, 2, 3, 10])] := rfl
@[simp] theorem h124_roots : h124.roots = [(42, 3), (45, 3), (49, 3), (70, 3), (76, 3), (81, 3)] := rfl
@[simp] theorem h124_rets : h124.rets = true := rfl
@[simp] theorem h124_glob : h124.glob = [] := rfl
@[simp] theorem h124_sw : h124.sw = [] := rfl
@[simp] theorem h124_msd : h124.msd = [] := rfl
@[simp] theorem h124_alt : h124.alt = [] := rfl
@[simp] theorem h124_fz : h124.fz = 0 := rfl
@[simp] theorem h124_gc : h124.gc = false := rfl
@[simp] theorem h124_wk : h124.wk = false := rfl
@[simp] theorem h124_rt : h124.rt = false := rfl
@[simp] theorem h124_inv : h124.inv = [] := rfl
def h125 : Hint where
  vars := [0, 1, 4]
  conds := []
  steal := [5, 6]
  live := []
  roots := []
  rets := true
  glob := []
  sw := []
  msd := []
  alt := []
  fz := 0
  gc := false
  wk := false
  rt := false
  inv := []
@[simp] theorem h125_vars : h125.vars = [0, 1, 4] := rfl
@[simp] theorem h125_conds : h125.conds = [] := rfl
@[simp] theorem h125_steal : h125.steal = [5, 6] := rfl
@[simp] theorem h125_live : h125.live = [] := rfl
@[simp] theorem h125_roots : h125.roots = [] := rfl
@[simp] theorem h125_rets : h125.rets = true := rfl
@[simp] theorem h125_glob : h125.glob = [] := rfl
@[simp] theorem h125_sw : h125.sw = [] := rfl
@[simp] theorem h125_msd : h125.msd = [] := rfl
@[simp] theorem h125_alt : h125.alt = [] := rfl
@[simp] theorem h125_fz : h125.fz = 0 := rfl
@[simp] theorem h125_gc : h125.gc = false := rfl
@[simp] theorem h125_wk : h125.wk = false := rfl
@[simp] theorem h125_rt : h125.rt = false := rfl
@[simp] theorem h125_inv : h125.inv = [] := rfl
def h126 : Hint where
  vars := [0, 1, 4, 5, 6]
  conds := []
  steal := [7, 9, 15]
  live := []
  roots := []
  rets := true
  glob := []
  sw := []
  msd := []
  alt := []
  fz := 0
  gc := false
  wk := false
  rt := false
  inv := []
@[simp] theorem h126_vars : h126.vars = [0, 1, 4, 5, 6] := rfl
@[simp] theorem h126_conds : h126.conds = [] := rfl
@[simp] theorem h126_steal : h126.steal = [7, 9, 15] := rfl
@[simp] theorem h126_live : h126.live = [] := rfl
@[simp] theorem h126_roots : h126.roots = [] := rfl
@[simp] theorem h126_rets : h126.rets = true := rfl
@[simp] theorem h126_glob : h126.glob = [] := rfl
@[simp] theorem h126_sw : h126.sw = [] := rfl
@[simp] theorem h126_msd : h126.msd = [] := rfl
@[simp] theorem h126_alt : h126.alt = [] := rfl
@[simp] theorem h126_fz : h126.fz = 0 := rfl
@[simp] theorem h126_gc : h126.gc = false := rfl
@[simp] theorem h126_wk : h126.wk = false := rfl
@[simp] theorem h126_rt : h126.rt = false := rfl
@[simp] theorem h126_inv : h126.inv = [] := rfl
def h127 : Hint where
  vars := [0, 1, 4, 5, 6, 7, 8, 9, 10, 11, 12, 13]
  conds := []
  steal := [26, 28, 33, 35, 36, 40, 41, 43, 45, 48, 49]
  live := []
  roots := []
  rets := true
  glob := []
  sw := []
  msd := []
  alt := []
  fz := 0
  gc := false
  wk := false
  rt := false
  inv := []
@[simp] theorem h127_vars : h127.vars = [0, 1, 4, 5, 6, 7, 8, 9, 10, 11, 12, 13] := rfl
@[simp] theorem h127_conds : h127.conds = [] := rfl
@[simp] theorem h127_steal : h127.steal = [26, 28, 33, 35, 36, 40, 41, 43, 45, 48, 49] := rfl
@[simp] theorem h127_live : h127.live = [] := rfl
@[simp] theorem h127_roots : h127.roots = [] := rfl
@[simp] theorem h127_rets : h127.rets = true := rfl
@[simp] theorem h127_glob : h127.glob = [] := rfl
@[simp] theorem h127_sw : h127.sw = [] := rfl
@[simp] theorem h127_msd : h127.msd = [] := rfl
@[simp] theorem h127_alt : h127.alt = [] := rfl
@[simp] theorem h127_fz : h127.fz = 0 := rfl
@[simp] theorem h127_gc : h127.gc = false := rfl
@[simp] theorem h127_wk : h127.wk = false := rfl
@[simp] theorem h127_rt : h127.rt = false := rfl
@[simp] theorem h127_inv : h127.inv = [] := rfl
def h128 : Hint where
  vars := [0, 1, 4]
  conds := []
  steal := [10, 11, 15]
  live := []
  roots := []
  rets := true
  glob := []
  sw := []
  msd := []
  alt := []
  fz := 0
  gc := false
  wk := false
  rt := false
  inv := []
@[simp] theorem h128_vars : h128.vars = [0, 1, 4] := rfl
@[simp] theorem h128_conds : h128.conds = [] := rfl
@[simp] theorem h128_steal : h128.steal = [10, 11, 15] := rfl
@[simp] theorem h128_live : h128.live = [] := rfl
@[simp] theorem h128_roots : h128.roots = [] := rfl
@[simp] theorem h128_rets : h128.rets = true := rfl
@[simp] theorem h128_glob : h128.glob = [] := rfl
@[simp] theorem h128_sw : h128.sw = [] := rfl
@[simp] theorem h128_msd : h128.msd = [] := rfl
@[simp] theorem h128_alt : h128.alt = [] := rfl
@[simp] theorem h128_fz : h128.fz = 0 := rfl
@[simp] theorem h128_gc : h128.gc = false := rfl
@[simp] theorem h128_wk : h128.wk = false := rfl
@[simp] theorem h128_rt : h128.rt = false := rfl
@[simp] theorem h128_inv : h128.inv = [] := rfl
def h129 : Hint where
  vars := [0, 2]
  conds := [4]
  steal := [6, 11]
  live := []
  roots := []
  rets := true
  glob := []
  sw := []
  msd := []
  alt := []
  fz := 0
  gc := false
  wk := false
  rt := false
  inv := []
@[simp] theorem h129_vars : h129.vars = [0, 2] := rfl
@[simp] theorem h129_conds : h129.conds = [4] := rfl
@[simp] theorem h129_steal : h129.steal = [6, 11] := rfl
@[simp] theorem h129_live : h129.live = [] := rfl
@[simp] theorem h129_roots : h129.roots = [] := rfl
@[simp] theorem h129_rets : h129.rets = true := rfl
@[simp] theorem h129_glob : h129.glob = [] := rfl
@[simp] theorem h129_sw : h129.sw = [] := rfl
@[simp] theorem h129_msd : h129.msd = [] := rfl
@[simp] theorem h129_alt : h129.alt = [] := rfl
@[simp] theorem h129_fz : h129.fz = 0 := rfl
@[simp] theorem h129_gc : h129.gc = false := rfl
@[simp] theorem h129_wk : h129.wk = false := rfl
@[simp] theorem h129_rt : h129.rt = false := rfl
@[simp] theorem h129_inv : h129.inv = [] := rfl
def h130 : Hint where
  vars := [0, 2, 3]
  conds := []
  steal := [8, 9]
  live := []
  roots := []
  rets := true
  glob := []
  sw := []
  msd := []
  alt := []
  fz := 0
  gc := false
  wk := false
  rt := false
  inv := []
@[simp] theorem h130_vars : h130.vars = [0, 2, 3] := rfl
@[simp] theorem h130_conds : h130.conds = [] := rfl
@[simp] theorem h130_steal : h130.steal = [8, 9] := rfl
@[simp] theorem h130_live : h130.live = [] := rfl
@[simp] theorem h130_roots : h130.roots = [] := rfl
@[simp] theorem h130_rets : h130.rets = true := rfl
@[simp] theorem h130_glob : h130.glob = [] := rfl
@[simp] theorem h130_sw : h130.sw = [] := rfl
@[simp] theorem h130_msd : h130.msd = [] := rfl
@[simp] theorem h130_alt : h130.alt = [] := rfl
@[simp] theorem h130_fz : h130.fz = 0 := rfl
@[simp] theorem h130_gc : h130.gc = false := rfl
@[simp] theorem h130_wk : h130.wk = false := rfl
@[simp] theorem h130_rt : h130.rt = false := rfl
@[simp] theorem h130_inv : h130.inv = [] := rfl
def h131 : Hint where
  vars := [0, 1, 4, 5, 6, 7, 8, 9, 10, 11, 12, 13, 14, 15, 16]
  conds := [20, 99, 139, 161]
  steal := [24, 28, 33, 39, 94, 96, 102, 107, 136, 143, 158, 160, 162, 163]
  live := [(1, [0, 1, 4])]
  roots := []
  rets := true
  glob := []
  sw := [53, 54, 66, 67, 79, 80, 92, 93, 121, 122, 134, 135, 156, 157]
  msd := []
  alt := []
  fz := 0
  gc := false
  wk := false
  rt := false
  inv := []
@[simp] theorem h131_vars : h131.vars = [0, 1, 4, 5, 6, 7, 8, 9, 10, 11, 12, 13, 14, 15, 16] := rfl
@[simp] theorem h131_conds : h131.conds = [20, 99, 139, 161] := rfl
@[simp] theorem h131_steal : h131.steal = [24, 28, 33, 39, 94, 96, 102, 107, 136, 143, 158, 160, 162, 163] := rfl
@[simp] theorem h131_live : h131.live = [(1, [0, 1, 4])] := rfl
@[simp] theorem h131_roots : h131.roots = [] := rfl
@[simp] theorem h131_rets : h131.rets = true := rfl
@[simp] theorem h131_glob : h131.glob = [] := rfl
@[simp] theorem h131_sw : h131.sw = [53, 54, 66, 67, 79, 80, 92, 93, 121, 122, 134, 135, 156, 157] := rfl
@[simp] theorem h131_msd : h131.msd = [] := rfl
@[simp] theorem h131_alt : h131.alt = [] := rfl
@[simp] theorem h131_fz : h131.fz = 0 := rfl
@[simp] theorem h131_gc : h131.gc = false := rfl
@[simp] theorem h131_wk : h131.wk = false := rfl
@[simp] theorem h131_rt : h131.rt = false := rfl
@[simp] theorem h131_inv : h131.inv = [] := rfl
def h132 : Hint where
  vars := [0, 1, 2, 3, 4, 10, 11, 12, 13, 14, 15, 16, 17, 18]
  conds := [28, 30, 34, 46, 68, 89, 94]
  steal := [21, 25, 31, 41, 47, 55, 58, 61, 64, 69, 75, 82, 83, 86, 89, 90, 94, 95, 96, 99]
  live := [(11, [0, 1, 3, 4, 10, 11, 12, 13, 14, 15, 16]), (18, [0, 1, 3, 4, 10, 11, 12, 13, 17])]
  roots := []
  rets := true
  glob := [12]
  sw := []
  msd := []
  alt := []
  fz := 0
  gc := true
  wk := false
  rt := false
  inv := []
@[simp] theorem h132_vars : h132.vars = [0, 1, 2, 3, 4, 10, 11, 12, 13, 14, 15, 16, 17, 18] := rfl
@[simp] theorem h132_conds : h132.conds = [28, 30, 34, 46, 68, 89, 94] := rfl
@[simp] theorem h132_steal : h132.steal = [21, 25, 31, 41, 47, 55, 58, 61, 64, 69, 75, 82, 83, 86, 89, 90, 94, 95, 96, 99] := rfl
@[simp] theorem h132_live : h132.live = [(11, [0, 1, 3, 4, 10, 11, 12, 13, 14, 15, 16]), (18, [0, 1, 3, 4, 10, 11, 12, 13, 17])] := rfl
@[simp] theorem h132_roots : h132.roots = [] := rfl
@[simp] theorem h132_rets : h132.rets = true := rfl
@[simp] theorem h132_glob : h132.glob = [12] := rfl
@[simp] theorem h132_sw : h132.sw = [] := rfl
@[simp] theorem h132_msd : h132.msd = [] := rfl
@[simp] theorem h132_alt : h132.alt = [] := rfl
@[simp] theorem h132_fz : h132.fz = 0 := rfl
@[simp] theorem h132_gc : h132.gc = true := rfl
@[simp] theorem h132_wk : h132.wk = false := rfl
@[simp] theorem h132_rt : h132.rt = false := rfl
@[simp] theorem h132_inv : h132.inv = [] := rfl
def h133 : Hint where
  vars := [0, 1, 4]
  conds := []
  steal := [5, 6]
  live := []
  roots := []
  rets := true
  glob := []
  sw := []
  msd := []
  alt := []
  fz := 0
  gc := false
  wk := false
  rt := false
  inv := []
@[simp] theorem h133_vars : h133.vars = [0, 1, 4] := rfl
@[simp] theorem h133_conds : h133.conds = [] := rfl
@[simp] theorem h133_steal : h133.steal = [5, 6] := rfl
@[simp] theorem h133_live : h133.live = [] := rfl
@[simp] theorem h133_roots : h133.roots = [] := rfl
@[simp] theorem h133_rets : h133.rets = true := rfl
@[simp] theorem h133_glob : h133.glob = [] := rfl
@[simp] theorem h133_sw : h133.sw = [] := rfl
@[simp] theorem h133_msd : h133.msd = [] := rfl
@[simp] theorem h133_alt : h133.alt = [] := rfl
@[simp] theorem h133_fz : h133.fz = 0 := rfl
@[simp] theorem h133_gc : h133.gc = false := rfl
@[simp] theorem h133_wk : h133.wk = false := rfl
@[simp] theorem h133_rt : h133.rt = false := rfl
@[simp] theorem h133_inv : h133.inv = [] := rfl
def h135 : Hint where
  vars := [0, 2]
  conds := []
  steal := [3]
  live := []
  roots := []
  rets := true
  glob := []
  sw := []
  msd := []
  alt := []
  fz := 0
  gc := false
  wk := false
  rt := false
  inv := []
@[simp] theorem h135_vars : h135.vars = [0, 2] := rfl
@[simp] theorem h135_conds : h135.conds = [] := rfl
@[simp] theorem h135_steal : h135.steal = [3] := rfl
@[simp] theorem h135_live : h135.live = [] := rfl
@[simp] theorem h135_roots : h135.roots = [] := rfl
@[simp] theorem h135_rets : h135.rets = true := rfl
@[simp] theorem h135_glob : h135.glob = [] := rfl
@[simp] theorem h135_sw : h135.sw = [] := rfl
@[simp] theorem h135_msd : h135.msd = [] := rfl
@[simp] theorem h135_alt : h135.alt = [] := rfl
@[simp] theorem h135_fz : h135.fz = 0 := rfl
@[simp] theorem h135_gc : h135.gc = false := rfl
@[simp] theorem h135_wk : h135.wk = false := rfl
@[simp] theorem h135_rt : h135.rt = false := rfl
@[simp] theorem h135_inv : h135.inv = [] := rfl
def h136 : Hint where
  vars := [0, 1, 4, 5, 6, 7, 8, 9, 10]
  conds := [20, 39, 44, 77]
  steal := [11, 15, 21, 23, 33, 45, 47, 53, 63, 68, 78, 79]
  live := [(5, [0, 1, 5, 6, 7, 8, 9]), (11, [0, 1, 5, 6, 7, 8, 10])]
  roots := []
  rets := true
  glob := []
  sw := []
  msd := []
  alt := []
  fz := 0
  gc := false
  wk := false
  rt := false
  inv := []
@[simp] theorem h136_vars : h136.vars = [0, 1, 4, 5, 6, 7, 8, 9, 10] := rfl
@[simp] theorem h136_conds : h136.conds = [20, 39, 44, 77] := rfl
@[simp] theorem h136_steal : h136.steal = [11, 15, 21, 23, 33, 45, 47, 53, 63, 68, 78, 79] := rfl
@[simp] theorem h136_live : h136.live = [(5, [0, 1, 5, 6, 7, 8, 9]), (11, [0, 1, 5, 6, 7, 8, 10])] := rfl
@[simp] theorem h136_roots : h136.roots = [] := rfl
@[simp] theorem h136_rets : h136.rets = true := rfl
@[simp] theorem h136_glob : h136.glob = [] := rfl
@[simp] theorem h136_sw : h136.sw = [] := rfl
@[simp] theorem h136_msd : h136.msd = [] := rfl
@[simp] theorem h136_alt : h136.alt = [] := rfl
@[simp] theorem h136_fz : h136.fz = 0 := rfl
@[simp] theorem h136_gc : h136.gc = false := rfl
@[simp] theorem h136_wk : h136.wk = false := rfl
@[simp] theorem h136_rt : h136.rt = false := rfl
@[simp] theorem h136_inv : h136.inv = [] := rfl
def h137 : Hint where
  vars := [0, 2, 4]
  conds := [6]
  steal := [3, 6, 7, 9]
  live := [(2, [2, 4])]
  roots := []
  rets := true
  glob := []
  sw := []
  msd := []
  alt := []
  fz := 0
  gc := false
  wk := false
  rt := false
  inv := []
@[simp] theorem h137_vars : h137.vars = [0, 2, 4] := rfl
@[simp] theorem h137_conds : h137.conds = [6] := rfl
@[simp] theorem h137_steal : h137.steal = [3, 6, 7, 9] := rfl
@[simp] theorem h137_live : h137.live = [(2, [2, 4])] := rfl
@[simp] theorem h137_roots : h137.roots = [] := rfl
@[simp] theorem h137_rets : h137.rets = true := rfl
@[simp] theorem h137_glob : h137.glob = [] := rfl
@[simp] theorem h137_sw : h137.sw = [] := rfl
@[simp] theorem h137_msd : h137.msd = [] := rfl
@[simp] theorem h137_alt : h137.alt = [] := rfl
@[simp] theorem h137_fz : h137.fz = 0 := rfl
@[simp] theorem h137_gc : h137.gc = false := rfl
@[simp] theorem h137_wk : h137.wk = false := rfl
@[simp] theorem h137_rt : h137.rt = false := rfl
@[simp] theorem h137_inv : h137.inv = [] := rfl
def h139 : Hint where
  vars := [0, 1, 2, 6, 7, 8, 9, 10, 11, 16]
  conds := [13, 17, 21, 38, 41, 52, 62, 69]
  steal := [19, 23, 25, 26, 27, 31, 34, 39, 42, 48, 53, 58, 63, 67, 69, 70, 72]
  live := []
  roots := []
  rets := true
  glob := []
  sw := []
  msd := []
  alt := []
  fz := 0
  gc := false
  wk := false
  rt := false
  inv := []
@[simp] theorem h139_vars : h139.vars = [0, 1, 2, 6, 7, 8, 9, 10, 11, 16] := rfl
@[simp] theorem h139_conds : h139.conds = [13, 17, 21, 38, 41, 52, 62, 69] := rfl
@[simp] theorem h139_steal : h139.steal = [19, 23, 25, 26, 27, 31, 34, 39, 42, 48, 53, 58, 63, 67, 69, 70, 72] := rfl
@[simp] theorem h139_live : h139.live = [] := rfl
@[simp] theorem h139_roots : h139.roots = [] := rfl
@[simp] theorem h139_rets : h139.rets = true := rfl
@[simp] theorem h139_glob : h139.glob = [] := rfl
@[simp] theorem h139_sw : h139.sw = [] := rfl
@[simp] theorem h139_msd : h139.msd = [] := rfl
@[simp] theorem h139_alt : h139.alt = [] := rfl
@[simp] theorem h139_fz : h139.fz = 0 := rfl
@[simp] theorem h139_gc : h139.gc = false := rfl
@[simp] theorem h139_wk : h139.wk = false := rfl
@[simp] theorem h139_rt : h139.rt = false := rfl
@[simp] theorem h139_inv : h139.inv = [] := rfl
def h140 : Hint where
  vars := [0, 1, 4]
  conds := []
  steal := []
  live := []
  roots := []
  rets := true
  glob := [10]
  sw := []
  msd := []
  alt := []
  fz := 0
  gc := false
  wk := false
  rt := false
  inv := []
@[simp] theorem h140_vars : h140.vars = [0, 1, 4] := rfl
@[simp] theorem h140_conds : h140.conds = [] := rfl
@[simp] theorem h140_steal : h140.steal = [] := rfl
@[simp] theorem h140_live : h140.live = [] := rfl
@[simp] theorem h140_roots : h140.roots = [] := rfl
@[simp] theorem h140_rets : h140.rets = true := rfl
@[simp] theorem h140_glob : h140.glob = [10] := rfl
@[simp] theorem h140_sw : h140.sw = [] := rfl
@[simp] theorem h140_msd : h140.msd = [] := rfl
@[simp] theorem h140_alt : h140.alt = [] := rfl
@[simp] theorem h140_fz : h140.fz = 0 := rfl
@[simp] theorem h140_gc : h140.gc = false := rfl
@[simp] theorem h140_wk : h140.wk = false := rfl
@[simp] theorem h140_rt : h140.rt = false := rfl
@[simp] theorem h140_inv : h140.inv = [] := rfl
def h141 : Hint where
  vars := [0, 1, 4]
  conds := []
  steal := []
  live := []
  roots := []
  rets := true
  glob := [10]
  sw := []
  msd := []
  alt := []
  fz := 0
  gc := false
  wk := false
  rt := false
  inv := []
@[simp] theorem h141_vars : h141.vars = [0, 1, 4] := rfl
@[simp] theorem h141_conds : h141.conds = [] := rfl
@[simp] theorem h141_steal : h141.steal = [] := rfl
@[simp] theorem h141_live : h141.live = [] := rfl
@[simp] theorem h141_roots : h141.roots = [] := rfl
@[simp] theorem h141_rets : h141.rets = true := rfl
@[simp] theorem h141_glob : h141.glob = [10] := rfl
@[simp] theorem h141_sw : h141.sw = [] := rfl
@[simp] theorem h141_msd : h141.msd = [] := rfl
@[simp] theorem h141_alt : h141.alt = [] := rfl
@[simp] theorem h141_fz : h141.fz = 0 := rfl
@[simp] theorem h141_gc : h141.gc = false := rfl
@[simp] theorem h141_wk : h141.wk = false := rfl
@[simp] theorem h141_rt : h141.rt = false := rfl
@[simp] theorem h141_inv : h141.inv = [] := rfl
def h142 : Hint where
  vars := [0, 1, 2, 6]
  conds := []
  steal := [7, 8, 10]
  live := []
  roots := []
  rets := true
  glob := [15]
  sw := []
  msd := []
  alt := []
  fz := 0
  gc := false
  wk := false
  rt := false
  inv := []
@[simp] theorem h142_vars : h142.vars = [0, 1, 2, 6] := rfl
@[simp] theorem h142_conds : h142.conds = [] := rfl
@[simp] theorem h142_steal : h142.steal = [7, 8, 10] := rfl
@[simp] theorem h142_live : h142.live = [] := rfl
@[simp] theorem h142_roots : h142.roots = [] := rfl
@[simp] theorem h142_rets : h142.rets = true := rfl
@[simp] theorem h142_glob : h142.glob = [15] := rfl
@[simp] theorem h142_sw : h142.sw = [] := rfl
@[simp] theorem h142_msd : h142.msd = [] := rfl
@[simp] theorem h142_alt : h142.alt = [] := rfl
@[simp] theorem h142_fz : h142.fz = 0 := rfl
@[simp] theorem h142_gc : h142.gc = false := rfl
@[simp] theorem h142_wk : h142.wk = false := rfl
@[simp] theorem h142_rt : h142.rt = false := rfl
@[simp] theorem h142_inv : h142.inv = [] := rfl
def h143 : Hint where
  vars := [0, 1, 2, 6]
  conds := []
  steal := [7, 8, 10]
  live := []
  roots := []
  rets := true
  glob := [15]
  sw := []
  msd := []
  alt := []
  fz := 0
  gc := false
  wk := false
  rt := false
  inv := []
@[simp] theorem h143_vars : h143.vars = [0, 1, 2, 6] := rfl
@[simp] theorem h143_conds : h143.conds = [] := rfl
@[simp] theorem h143_steal : h143.steal = [7, 8, 10] := rfl
@[simp] theorem h143_live : h143.live = [] := rfl
@[simp] theorem h143_roots : h143.roots = [] := rfl
@[simp] theorem h143_rets : h143.rets = true := rfl
@[simp] theorem h143_glob : h143.glob = [15] := rfl
@[simp] theorem h143_sw : h143.sw = [] := rfl
@[simp] theorem h143_msd : h143.msd = [] := rfl
@[simp] theorem h143_alt : h143.alt = [] := rfl
@[simp] theorem h143_fz : h143.fz = 0 := rfl
@[simp] theorem h143_gc : h143.gc = false := rfl
@[simp] theorem h143_wk : h143.wk = false := rfl
@[simp] theorem h143_rt : h143.rt = false := rfl
@[simp] theorem h143_inv : h143.inv = [] := rfl
def h144 : Hint where
  vars := [0, 2, 3, 4, 5, 6, 7, 8, 9, 10, 11, 12]
  conds := [16, 23, 45, 57, 59, 75, 77, 98]
  steal := [24, 28, 33, 39, 43, 52, 60, 64, 72, 76, 78, 82, 87, 91, 95, 99, 103, 108, 113]
  live := []
  roots := []
  rets := true
  glob := []
  sw := []
  msd := []
  alt := []
  fz := 0
  gc := false
  wk := false
  rt := false
  inv := []
@[simp] theorem h144_vars : h144.vars = [0, 2, 3, 4, 5, 6, 7, 8, 9, 10, 11, 12] := rfl
@[simp] theorem h144_conds : h144.conds = [16, 23, 45, 57, 59, 75, 77, 98] := rfl
@[simp] theorem h144_steal : h144.steal = [24, 28, 33, 39, 43, 52, 60, 64, 72, 76, 78, 82, 87, 91, 95, 99, 103, 108, 113] := rfl
@[simp] theorem h144_live : h144.live = [] := rfl
@[simp] theorem h144_roots : h144.roots = [] := rfl
@[simp] theorem h144_rets : h144.rets = true := rfl
@[simp] theorem h144_glob : h144.glob = [] := rfl
@[simp] theorem h144_sw : h144.sw = [] := rfl
@[simp] theorem h144_msd : h144.msd = [] := rfl
@[simp] theorem h144_alt : h144.alt = [] := rfl
@[simp] theorem h144_fz : h144.fz = 0 := rfl
@[simp] theorem h144_gc : h144.gc = false := rfl
@[simp] theorem h144_wk : h144.wk = false := rfl
@[simp] theorem h144_rt : h144.rt = false := rfl
@[simp] theorem h144_inv : h144.inv = [] := rfl
def h146 : Hint where
  vars := [0, 1, 4, 5]
  conds := []
  steal := [6, 12, 13]
  live := []
  roots := []
  rets := true
  glob := []
  sw := []
  msd := []
  alt := []
  fz := 0
  gc := false
  wk := false
  rt := false
  inv := []
@[simp] theorem h146_vars : h146.vars = [0, 1, 4, 5] := rfl
@[simp] theorem h146_conds : h146.conds = [] := rfl
@[simp] theorem h146_steal : h146.steal = [6, 12, 13] := rfl
@[simp] theorem h146_live : h146.live = [] := rfl
@[simp] theorem h146_roots : h146.roots = [] := rfl
@[simp] theorem h146_rets : h146.rets = true := rfl
@[simp] theorem h146_glob : h146.glob = [] := rfl
@[simp] theorem h146_sw : h146.sw = [] := rfl
@[simp] theorem h146_msd : h146.msd = [] := rfl
@[simp] theorem h146_alt : h146.alt = [] := rfl
@[simp] theorem h146_fz : h146.fz = 0 := rfl
@[simp] theorem h146_gc : h146.gc = false := rfl
@[simp] theorem h146_wk : h146.wk = false := rfl
@[simp] theorem h146_rt : h146.rt = false := rfl
@[simp] theorem h146_inv : h146.inv = [] := rfl
def h147 : Hint where
  vars := [0, 2]
  conds := []
  steal := [3]
  live := []
  roots := []
  rets := true
  glob := []
  sw := []
  msd := []
  alt := []
  fz := 0
  gc := false
  wk := false
  rt := false
  inv := []
@[simp] theorem h147_vars : h147.vars = [0, 2] := rfl
@[simp] theorem h147_conds : h147.conds = [] := rfl
@[simp] theorem h147_steal : h147.steal = [3] := rfl
@[simp] theorem h147_live : h147.live = [] := rfl
@[simp] theorem h147_roots : h147.roots = [] := rfl
@[simp] theorem h147_rets : h147.rets = true := rfl
@[simp] theorem h147_glob : h147.glob = [] := rfl
@[simp] theorem h147_sw : h147.sw = [] := rfl
@[simp] theorem h147_msd : h147.msd = [] := rfl
@[simp] theorem h147_alt : h147.alt = [] := rfl
@[simp] theorem h147_fz : h147.fz = 0 := rfl
@[simp] theorem h147_gc : h147.gc = false := rfl
@[simp] theorem h147_wk : h147.wk = false := rfl
@[simp] theorem h147_rt : h147.rt = false := rfl
@[simp] theorem h147_inv : h147.inv = [] := rfl
def h148 : Hint where
  vars := [0, 2]
  conds := [4, 8, 14]
  steal := [5, 9, 11, 15, 17, 19, 20]
  live := []
  roots := []
  rets := true
  glob := []
  sw := []
  msd := []
  alt := []
  fz := 0
  gc := false
  wk := false
  rt := false
  inv := []
@[simp] theorem h148_vars : h148.vars = [0, 2] := rfl
@[simp] theorem h148_conds : h148.conds = [4, 8, 14] := rfl
@[simp] theorem h148_steal : h148.steal = [5, 9, 11, 15, 17, 19, 20] := rfl
@[simp] theorem h148_live : h148.live = [] := rfl
@[simp] theorem h148_roots : h148.roots = [] := rfl
@[simp] theorem h148_rets : h148.rets = true := rfl
@[simp] theorem h148_glob : h148.glob = [] := rfl
@[simp] theorem h148_sw : h148.sw = [] := rfl
@[simp] theorem h148_msd : h148.msd = [] := rfl
@[simp] theorem h148_alt : h148.alt = [] := rfl
@[simp] theorem h148_fz : h148.fz = 0 := rfl
@[simp] theorem h148_gc : h148.gc = false := rfl
@[simp] theorem h148_wk : h148.wk = false := rfl
@[simp] theorem h148_rt : h148.rt = false := rfl
@[simp] theorem h148_inv : h148.inv = [] := rfl
def h149 : Hint where
  vars := [0, 2]
  conds := [3]
  steal := [3]
  live := []
  roots := []
  rets := true
  glob := []
  sw := []
  msd := []
  alt := []
  fz := 0
  gc := false
  wk := false
  rt := false
  inv := []
@[simp] theorem h149_vars : h149.vars = [0, 2] := rfl
@[simp] theorem h149_conds : h149.conds = [3] := rfl
@[simp] theorem h149_steal : h149.steal = [3] := rfl
@[simp] theorem h149_live : h149.live = [] := rfl
@[simp] theorem h149_roots : h149.roots = [] := rfl
@[simp] theorem h149_rets : h149.rets = true := rfl
@[simp] theorem h149_glob : h149.glob = [] := rfl
@[simp] theorem h149_sw : h149.sw = [] := rfl
@[simp] theorem h149_msd : h149.msd = [] := rfl
@[simp] theorem h149_alt : h149.alt = [] := rfl
@[simp] theorem h149_fz : h149.fz = 0 := rfl
@[simp] theorem h149_gc : h149.gc = false := rfl
@[simp] theorem h149_wk : h149.wk = false := rfl
@[simp] theorem h149_rt : h149.rt = false := rfl
@[simp] theorem h149_inv : h149.inv = [] := rfl
def h150 : Hint where
  vars := [0, 2]
  conds := []
  steal := [4]
  live := []
  roots := []
  rets := true
  glob := []
  sw := []
  msd := []
  alt := []
  fz := 0
  gc := false
  wk := false
  rt := false
  inv := []
@[simp] theorem h150_vars : h150.vars = [0, 2] := rfl
@[simp] theorem h150_conds : h150.conds = [] := rfl
@[simp] theorem h150_steal : h150.steal = [4] := rfl
@[simp] theorem h150_live : h150.live = [] := rfl
@[simp] theorem h150_roots : h150.roots = [] := rfl
@[simp] theorem h150_rets : h150.rets = true := rfl
@[simp] theorem h150_glob : h150.glob = [] := rfl
@[simp] theorem h150_sw : h150.sw = [] := rfl
@[simp] theorem h150_msd : h150.msd = [] := rfl
@[simp] theorem h150_alt : h150.alt = [] := rfl
@[simp] theorem h150_fz : h150.fz = 0 := rfl
@[simp] theorem h150_gc : h150.gc = false := rfl
@[simp] theorem h150_wk : h150.wk = false := rfl
@[simp] theorem h150_rt : h150.rt = false := rfl
@[simp] theorem h150_inv : h150.inv = [] := rfl
def h151 : Hint where
  vars := [0, 2]
  conds := []
  steal := [3, 6]
  live := []
  roots := []
  rets := true
  glob := []
  sw := []
  msd := []
  alt := []
  fz := 0
  gc := false
  wk := false
  rt := false
  inv := []
@[simp] theorem h151_vars : h151.vars = [0, 2] := rfl
@[simp] theorem h151_conds : h151.conds = [] := rfl
@[simp] theorem h151_steal : h151.steal = [3, 6] := rfl
@[simp] theorem h151_live : h151.live = [] := rfl
@[simp] theorem h151_roots : h151.roots = [] := rfl
@[simp] theorem h151_rets : h151.rets = true := rfl
@[simp] theorem h151_glob : h151.glob = [] := rfl
@[simp] theorem h151_sw : h151.sw = [] := rfl
@[simp] theorem h151_msd : h151.msd = [] := rfl
@[simp] theorem h151_alt : h151.alt = [] := rfl
@[simp] theorem h151_fz : h151.fz = 0 := rfl
@[simp] theorem h151_gc : h151.gc = false := rfl
@[simp] theorem h151_wk : h151.wk = false := rfl
@[simp] theorem h151_rt : h151.rt = false := rfl
@[simp] theorem h151_inv : h151.inv = [] := rfl
def h153 : Hint where
  vars := [0, 2, 3, 4, 5, 6, 7, 8]
  conds := [12, 25, 30]
  steal := [13, 15, 22, 26, 31, 35, 37, 38]
  live := [(3, [0, 4, 5]), (8, [4, 6, 7, 8])]
  roots := []
  rets := true
  glob := []
  sw := []
  msd := []
  alt := []
  fz := 0
  gc := false
  wk := false
  rt := false
  inv := []
@[simp] theorem h153_vars : h153.vars = [0, 2, 3, 4, 5, 6, 7, 8] := rfl
@[simp] theorem h153_conds : h153.conds = [12, 25, 30] := rfl
@[simp] theorem h153_steal : h153.steal = [13, 15, 22, 26, 31, 35, 37, 38] := rfl
@[simp] theorem h153_live : h153.live = [(3, [0, 4, 5]), (8, [4, 6, 7, 8])] := rfl
@[simp] theorem h153_roots : h153.roots = [] := rfl
@[simp] theorem h153_rets : h153.rets = true := rfl
@[simp] theorem h153_glob : h153.glob = [] := rfl
@[simp] theorem h153_sw : h153.sw = [] := rfl
@[simp] theorem h153_msd : h153.msd = [] := rfl
@[simp] theorem h153_alt : h153.alt = [] := rfl
@[simp] theorem h153_fz : h153.fz = 0 := rfl
@[simp] theorem h153_gc : h153.gc = false := rfl
@[simp] theorem h153_wk : h153.wk = false := rfl
@[simp] theorem h153_rt : h153.rt = false := rfl
@[simp] theorem h153_inv : h153.inv = [] := rfl
def h154 : Hint where
  vars := [0, 1, 2, 6, 7, 8, 9, 10, 11, 12, 13, 15, 16, 17, 85, 99, 100, 101]
  conds := [19, 25, 32, 37, 40, 52, 64, 77, 83, 90, 92, 102, 106, 112, 121, 137, 141, 159, 169]
  steal := [28, 33, 38, 44, 50, 56, 62, 68, 74, 80, 94, 98, 109, 115, 119, 125, 130, 142, 144, 149, 153, 155, 160, 162, 164, 165, 166, 171]
  live := [(36, [1, 8, 9, 10, 11, 12, 13, 99, 100, 101])]
  roots := []
  rets := true
  glob := []
  sw := []
  msd := [99]
  alt := []
  fz := 0
  gc := false
  wk := false
  rt := false
  inv := []
@[simp] theorem h154_vars : h154.vars = [0, 1, 2, 6, 7, 8, 9, 10, 11, 12, 13, 15, 16, 17, 85, 99, 100, 101] := rfl
@[simp] theorem h154_conds : h154.conds = [19, 25, 32, 37, 40, 52, 64, 77, 83, 90, 92, 102, 106, 112, 121, 137, 141, 159, 169] := rfl
@[simp] theorem h154_steal : h154.steal = [28, 33, 38, 44, 50, 56, 62, 68, 74, 80, 94, 98, 109, 115, 119, 125, 130, 142, 144, 149, 153, 155, 160, 162, 164, 165, 166, 171] := rfl
@[simp] theorem h154_live : h154.live = [(36, [1, 8, 9, 10, 11, 12, 13, 99, 100, 101])] := rfl
@[simp] theorem h154_roots : h154.roots = [] := rfl
@[simp] theorem h154_rets : h154.rets = true := rfl
@[simp] theorem h154_glob : h154.glob = [] := rfl
@[simp] theorem h154_sw : h154.sw = [] := rfl
@[simp] theorem h154_msd : h154.msd = [99] := rfl
@[simp] theorem h154_alt : h154.alt = [] := rfl
@[simp] theorem h154_fz : h154.fz = 0 := rfl
@[simp] theorem h154_gc : h154.gc = false := rfl
@[simp] theorem h154_wk : h154.wk = false := rfl
@[simp] theorem h154_rt : h154.rt = false := rfl
@[simp] theorem h154_inv : h154.inv = [] := rfl
def h155 : Hint where
  vars := [0, 2, 3]
  conds := [6]
  steal := [11, 15]
  live := []
  roots := []
  rets := true
  glob := [9]
  sw := []
  msd := [9, 12]
  alt := []
  fz := 0
  gc := true
  wk := false
  rt := false
  inv := []
@[simp] theorem h155_vars : h155.vars = [0, 2, 3] := rfl
@[simp] theorem h155_conds : h155.conds = [6] := rfl
@[simp] theorem h155_steal : h155.steal = [11, 15] := rfl
@[simp] theorem h155_live : h155.live = [] := rfl
@[simp] theorem h155_roots : h155.roots = [] := rfl
@[simp] theorem h155_rets : h155.rets = true := rfl
@[simp] theorem h155_glob : h155.glob = [9] := rfl
@[simp] theorem h155_sw : h155.sw = [] := rfl
@[simp] theorem h155_msd : h155.msd = [9, 12] := rfl
@[simp] theorem h155_alt : h155.alt = [] := rfl
@[simp] theorem h155_fz : h155.fz = 0 := rfl
@[simp] theorem h155_gc : h155.gc = true := rfl
@[simp] theorem h155_wk : h155.wk = false := rfl
@[simp] theorem h155_rt : h155.rt = false := rfl
@[simp] theorem h155_inv : h155.inv = [] := rfl
def h156 : Hint where
  vars := [0, 2]
  conds := []
  steal := [3]
  live := []
  roots := []
  rets := true
  glob := [5]
  sw := []
  msd := []
  alt := []
  fz := 0
  gc := true
  wk := true
  rt := false
  inv := []
@[simp] theorem h156_vars : h156.vars = [0, 2] := rfl
@[simp] theorem h156_conds : h156.conds = [] := rfl
@[simp] theorem h156_steal : h156.steal = [3] := rfl
@[simp] theorem h156_live : h156.live = [] := rfl
@[simp] theorem h156_roots : h156.roots = [] := rfl
@[simp] theorem h156_rets : h156.rets = true := rfl
@[simp] theorem h156_glob : h156.glob = [5] := rfl
@[simp] theorem h156_sw : h156.sw = [] := rfl
@[simp] theorem h156_msd : h156.msd = [] := rfl
@[simp] theorem h156_alt : h156.alt = [] := rfl
@[simp] theorem h156_fz : h156.fz = 0 := rfl
@[simp] theorem h156_gc : h156.gc = true := rfl
@[simp] theorem h156_wk : h156.wk = true := rfl
@[simp] theorem h156_rt : h156.rt = false := rfl
@[simp] theorem h156_inv : h156.inv = [] := rfl
def h157 : Hint where
  vars := [0, 2]
  conds := [4]
  steal := [6]
  live := []
  roots := []
  rets := true
  glob := []
  sw := []
  msd := []
  alt := []
  fz := 0
  gc := false
  wk := false
  rt := false
  inv := []
@[simp] theorem h157_vars : h157.vars = [0, 2] := rfl
@[simp] theorem h157_conds : h157.conds = [4] := rfl
@[simp] theorem h157_steal : h157.steal = [6] := rfl
@[simp] theorem h157_live : h157.live = [] := rfl
@[simp] theorem h157_roots : h157.roots = [] := rfl
@[simp] theorem h157_rets : h157.rets = true := rfl
@[simp] theorem h157_glob : h157.glob = [] := rfl
@[simp] theorem h157_sw : h157.sw = [] := rfl
@[simp] theorem h157_msd : h157.msd = [] := rfl
@[simp] theorem h157_alt : h157.alt = [] := rfl
@[simp] theorem h157_fz : h157.fz = 0 := rfl
@[simp] theorem h157_gc : h157.gc = false := rfl
@[simp] theorem h157_wk : h157.wk = false := rfl
@[simp] theorem h157_rt : h157.rt = false := rfl
@[simp] theorem h157_inv : h157.inv = [] := rfl
def h158 : Hint where
  vars := [0, 2]
  conds := [4]
  steal := [6]
  live := []
  roots := []
  rets := true
  glob := []
  sw := []
  msd := []
  alt := []
  fz := 0
  gc := false
  wk := false
  rt := false
  inv := []
@[simp] theorem h158_vars : h158.vars = [0, 2] := rfl
@[simp] theorem h158_conds : h158.conds = [4] := rfl
@[simp] theorem h158_steal : h158.steal = [6] := rfl
@[simp] theorem h158_live : h158.live = [] := rfl
@[simp] theorem h158_roots : h158.roots = [] := rfl
@[simp] theorem h158_rets : h158.rets = true := rfl
@[simp] theorem h158_glob : h158.glob = [] := rfl
@[simp] theorem h158_sw : h158.sw = [] := rfl
@[simp] theorem h158_msd : h158.msd = [] := rfl
@[simp] theorem h158_alt : h158.alt = [] := rfl
@[simp] theorem h158_fz : h158.fz = 0 := rfl
@[simp] theorem h158_gc : h158.gc = false := rfl
@[simp] theorem h158_wk : h158.wk = false := rfl
@[simp] theorem h158_rt : h158.rt = false := rfl
@[simp] theorem h158_inv : h158.inv = [] := rfl
def h159 : Hint where
  vars := [0, 2]
  conds := []
  steal := [3]
  live := []
  roots := []
  rets := true
  glob := []
  sw := []
  msd := []
  alt := []
  fz := 0
  gc := false
  wk := false
  rt := false
  inv := []
@[simp] theorem h159_vars : h159.vars = [0, 2] := rfl
@[simp] theorem h159_conds : h159.conds = [] := rfl
@[simp] theorem h159_steal : h159.steal = [3] := rfl
@[simp] theorem h159_live : h159.live = [] := rfl
@[simp] theorem h159_roots : h159.roots = [] := rfl
@[simp] theorem h159_rets : h159.rets = true := rfl
@[simp] theorem h159_glob : h159.glob = [] := rfl
@[simp] theorem h159_sw : h159.sw = [] := rfl
@[simp] theorem h159_msd : h159.msd = [] := rfl
@[simp] theorem h159_alt : h159.alt = [] := rfl
@[simp] theorem h159_fz : h159.fz = 0 := rfl
@[simp] theorem h159_gc : h159.gc = false := rfl
@[simp] theorem h159_wk : h159.wk = false := rfl
@[simp] theorem h159_rt : h159.rt = false := rfl
@[simp] theorem h159_inv : h159.inv = [] := rfl
def h160 : Hint where
  vars := [0, 2, 3, 4, 5]
  conds := [18, 46, 54, 83, 87, 89, 91]
  steal := [9, 13, 19, 24, 29, 34, 40, 55, 61, 67, 69, 76, 88, 90, 92]
  live := [(10, [0, 3, 4, 5])]
  roots := []
  rets := true
  glob := []
  sw := []
  msd := []
  alt := []
  fz := 0
  gc := false
  wk := false
  rt := false
  inv := []
@[simp] theorem h160_vars : h160.vars = [0, 2, 3, 4, 5] := rfl
@[simp] theorem h160_conds : h160.conds = [18, 46, 54, 83, 87, 89, 91] := rfl
@[simp] theorem h160_steal : h160.steal = [9, 13, 19, 24, 29, 34, 40, 55, 61, 67, 69, 76, 88, 90, 92] := rfl
@[simp] theorem h160_live : h160.live = [(10, [0, 3, 4, 5])] := rfl
@[simp] theorem h160_roots : h160.roots = [] := rfl
@[simp] theorem h160_rets : h160.rets = true := rfl
@[simp] theorem h160_glob : h160.glob = [] := rfl
@[simp] theorem h160_sw : h160.sw = [] := rfl
@[simp] theorem h160_msd : h160.msd = [] := rfl
@[simp] theorem h160_alt : h160.alt = [] := rfl
@[simp] theorem h160_fz : h160.fz = 0 := rfl
@[simp] theorem h160_gc : h160.gc = false := rfl
@[simp] theorem h160_wk : h160.wk = false := rfl
@[simp] theorem h160_rt : h160.rt = false := rfl
@[simp] theorem h160_inv : h160.inv = [] := rfl
def h100072 : Hint where
  vars := [0, 2]
  conds := []
  steal := [4]
  live := []
  roots := []
  rets := true
  glob := [5]
  sw := []
  msd := [5]
  alt := []
  fz := 0
  gc := false
  wk := false
  rt := false
  inv := []
@[simp] theorem h100072_vars : h100072.vars = [0, 2] := rfl
@[simp] theorem h100072_conds : h100072.conds = [] := rfl
@[simp] theorem h100072_steal : h100072.steal = [4] := rfl
@[simp] theorem h100072_live : h100072.live = [] := rfl
@[simp] theorem h100072_roots : h100072.roots = [] := rfl
@[simp] theorem h100072_rets : h100072.rets = true := rfl
@[simp] theorem h100072_glob : h100072.glob = [5] := rfl
@[simp] theorem h100072_sw : h100072.sw = [] := rfl
@[simp] theorem h100072_msd : h100072.msd = [5] := rfl
@[simp] theorem h100072_alt : h100072.alt = [] := rfl
@[simp] theorem h100072_fz : h100072.fz = 0 := rfl
@[simp] theorem h100072_gc : h100072.gc = false := rfl
@[simp] theorem h100072_wk : h100072.wk = false := rfl
@[simp] theorem h100072_rt : h100072.rt = false := rfl
@[simp] theorem h100072_inv : h100072.inv = [] := rfl
def h100046 : Hint where
  vars := [0, 2]
  conds := []
  steal := [6]
  live := []
  roots := []
  rets := true
  glob := [7]
  sw := []
  msd := [7]
  alt := []
  fz := 0
  gc := false
  wk := false
  rt := false
  inv := []
@[simp] theorem h100046_vars : h100046.vars = [0, 2] := rfl
@[simp] theorem h100046_conds : h100046.conds = [] := rfl
@[simp] theorem h100046_steal : h100046.steal = [6] := rfl
@[simp] theorem h100046_live : h100046.live = [] := rfl
@[simp] theorem h100046_roots : h100046.roots = [] := rfl
@[simp] theorem h100046_rets : h100046.rets = true := rfl
@[simp] theorem h100046_glob : h100046.glob = [7] := rfl
@[simp] theorem h100046_sw : h100046.sw = [] := rfl
@[simp] theorem h100046_msd : h100046.msd = [7] := rfl
@[simp] theorem h100046_alt : h100046.alt = [] := rfl
@[simp] theorem h100046_fz : h100046.fz = 0 := rfl
@[simp] theorem h100046_gc : h100046.gc = false := rfl
@[simp] theorem h100046_wk : h100046.wk = false := rfl
@[simp] theorem h100046_rt : h100046.rt = false := rfl
@[simp] theorem h100046_inv : h100046.inv = [] := rfl
def h100011 : Hint where
  vars := [0, 1, 2, 6, 7]
  conds := [34]
  steal := [10, 19, 23, 35, 39, 42]
  live := []
  roots := []
  rets := true
  glob := []
  sw := []
  msd := []
  alt := [(45, 1)]
  fz := 0
  gc := false
  wk := false
  rt := false
  inv := []
@[simp] theorem h100011_vars : h100011.vars = [0, 1, 2, 6, 7] := rfl
@[simp] theorem h100011_conds : h100011.conds = [34] := rfl
@[simp] theorem h100011_steal : h100011.steal = [10, 19, 23, 35, 39, 42] := rfl
@[simp] theorem h100011_live : h100011.live = [] := rfl
@[simp] theorem h100011_roots : h100011.roots = [] := rfl
@[simp] theorem h100011_rets : h100011.rets = true := rfl
@[simp] theorem h100011_glob : h100011.glob = [] := rfl
@[simp] theorem h100011_sw : h100011.sw = [] := rfl
@[simp] theorem h100011_msd : h100011.msd = [] := rfl
@[simp] theorem h100011_alt : h100011.alt = [(45, 1)] := rfl
@[simp] theorem h100011_fz : h100011.fz = 0 := rfl
@[simp] theorem h100011_gc : h100011.gc = false := rfl
@[simp] theorem h100011_wk : h100011.wk = false := rfl
@[simp] theorem h100011_rt : h100011.rt = false := rfl
@[simp] theorem h100011_inv : h100011.inv = [] := rfl
def h100065 : Hint where
  vars := [0, 1, 4, 5, 6, 7]
  conds := [11, 24]
  steal := [12, 18, 25, 27, 34]
  live := [(4, [0, 1, 5, 6, 7])]
  roots := []
  rets := true
  glob := [31]
  sw := []
  msd := [31]
  alt := []
  fz := 0
  gc := false
  wk := false
  rt := false
  inv := []
@[simp] theorem h100065_vars : h100065.vars = [0, 1, 4, 5, 6, 7] := rfl
@[simp] theorem h100065_conds : h100065.conds = [11, 24] := rfl
@[simp] theorem h100065_steal : h100065.steal = [12, 18, 25, 27, 34] := rfl
@[simp] theorem h100065_live : h100065.live = [(4, [0, 1, 5, 6, 7])] := rfl
@[simp] theorem h100065_roots : h100065.roots = [] := rfl
@[simp] theorem h100065_rets : h100065.rets = true := rfl
@[simp] theorem h100065_glob : h100065.glob = [31] := rfl
@[simp] theorem h100065_sw : h100065.sw = [] := rfl
@[simp] theorem h100065_msd : h100065.msd = [31] := rfl
@[simp] theorem h100065_alt : h100065.alt = [] := rfl
@[simp] theorem h100065_fz : h100065.fz = 0 := rfl
@[simp] theorem h100065_gc : h100065.gc = false := rfl
@[simp] theorem h100065_wk : h100065.wk = false := rfl
@[simp] theorem h100065_rt : h100065.rt = false := rfl
@[simp] theorem h100065_inv : h100065.inv = [] := rfl
def H : FuncId → Hint
  | 4 => h4
  | 5 => h5
  | 6 => h6
  | 7 => h7
  | 8 => h8
  | 10 => h10
  | 11 => h11
  | 12 => h12
  | 13 => h13
  | 14 => h14
  | 15 => h15
  | 16 => h16
  | 17 => h17
  | 18 => h18
  | 19 => h19
  | 20 => h20
  | 21 => h21
  | 22 => h22
  | 23 => h23
  | 24 => h24
  | 25 => h25
  | 26 => h26
  | 27 => h27
  | 28 => h28
  | 29 => h29
  | 30 => h30
  | 31 => h31
  | 32 => h32
  | 33 => h33
  | 34 => h34
  | 44 => h44
  | 45 => h45
  | 46 => h46
  | 47 => h47
  | 48 => h48
  | 49 => h49
  | 50 => h50
  | 51 => h51
  | 52 => h52
  | 53 => h53
  | 54 => h54
  | 55 => h55
  | 56 => h56
  | 57 => h57
  | 58 => h58
  | 59 => h59
  | 60 => h60
  | 61 => h61
  | 62 => h62
  | 63 => h63
  | 64 => h64
  | 65 => h65
  | 66 => h66
  | 67 => h67
  | 68 => h68
  | 69 => h69
  | 70 => h70
  | 71 => h71
  | 72 => h72
  | 73 => h73
  | 74 => h74
  | 80 => h80
  | 81 => h81
  | 82 => h82
  | 86 => h86
  | 91 => h91
  | 92 => h92
  | 93 => h93
  | 94 => h94
  | 95 => h95
  | 96 => h96
  | 97 => h97
  | 98 => h98
  | 99 => h99
  | 100 => h100
  | 101 => h101
  | 102 => h102
  | 104 => h104
  | 105 => h105
  | 106 => h106
  | 107 => h107
  | 108 => h108
  | 109 => h109
  | 111 => h111
  | 112 => h112
  | 113 => h113
  | 114 => h114
  | 115 => h115
  | 116 => h116
  | 117 => h117
  | 118 => h118
  | 119 => h119
  | 120 => h120
  | 121 => h121
  | 122 => h122
  | 124 => h124
  | 125 => h125
  | 126 => h126
  | 127 => h127
  | 128 => h128
  | 129 => h129
  | 130 => h130
  | 131 => h131
  | 132 => h132
  | 133 => h133
  | 135 => h135
  | 136 => h136
  | 137 => h137
  | 139 => h139
  | 140 => h140
  | 141 => h141
  | 142 => h142
  | 143 => h143
  | 144 => h144
  | 146 => h146
  | 147 => h147
  | 148 => h148
  | 149 => h149
  | 150 => h150
  | 151 => h151
  | 153 => h153
  | 154 => h154
  | 155 => h155
  | 156 => h156
  | 157 => h157
  | 158 => h158
  | 159 => h159
  | 160 => h160
  | 100072 => h100072
  | 100046 => h100046
  | 100011 => h100011
  | 100065 => h100065
  | _ => {}
@[simp] theorem H4 : H 4 = h4 := rfl
@[simp] theorem H5 : H 5 = h5 := rfl
@[simp] theorem H6 : H 6 = h6 := rfl
@[simp] theorem H7 : H 7 = h7 := rfl
@[simp] theorem H8 : H 8 = h8 := rfl
@[simp] theorem H10 : H 10 = h10 := rfl
@[simp] theorem H11 : H 11 = h11 := rfl
@[simp] theorem H12 : H 12 = h12 := rfl
@[simp] theorem H13 : H 13 = h13 := rfl
@[simp] theorem H14 : H 14 = h14 := rfl
@[simp] theorem H15 : H 15 = h15 := rfl
@[simp] theorem H16 : H 16 = h16 := rfl
@[simp] theorem H17 : H 17 = h17 := rfl
@[simp] theorem H18 : H 18 = h18 := rfl
@[simp] theorem H19 : H 19 = h19 := rfl
@[simp] theorem H20 : H 20 = h20 := rfl
@[simp] theorem H21 : H 21 = h21 := rfl
@[simp] theorem H22 : H 22 = h22 := rfl
@[simp] theorem H23 : H 23 = h23 := rfl
@[simp] theorem H24 : H 24 = h24 := rfl
@[simp] theorem H25 : H 25 = h25 := rfl
@[simp] theorem H26 : H 26 = h26 := rfl
@[simp] theorem H27 : H 27 = h27 := rfl
@[simp] theorem H28 : H 28 = h28 := rfl
@[simp] theorem H29 : H 29 = h29 := rfl
@[simp] theorem H30 : H 30 = h30 := rfl
@[simp] theorem H31 : H 31 = h31 := rfl
@[simp] theorem H32 : H 32 = h32 := rfl
@[simp] theorem H33 : H 33 = h33 := rfl
@[simp] theorem H34 : H 34 = h34 := rfl
@[simp] theorem H44 : H 44 = h44 := rfl
@[simp] theorem H45 : H 45 = h45 := rfl
@[simp] theorem H46 : H 46 = h46 := rfl
@[simp] theorem H47 : H 47 = h47 := rfl
@[simp] theorem H48 : H 48 = h48 := rfl
@[simp] theorem H49 : H 49 = h49 := rfl
@[simp] theorem H50 : H 50 = h50 := rfl
@[simp] theorem H51 : H 51 = h51 := rfl
@[simp] theorem H52 : H 52 = h52 := rfl
@[simp] theorem H53 : H 53 = h53 := rfl
@[simp] theorem H54 : H 54 = h54 := rfl
@[simp] theorem H55 : H 55 = h55 := rfl
@[simp] theorem H56 : H 56 = h56 := rfl
@[simp] theorem H57 : H 57 = h57 := rfl
@[simp] theorem H58 : H 58 = h58 := rfl
@[simp] theorem H59 : H 59 = h59 := rfl
@[simp] theorem H60 : H 60 = h60 := rfl
@[simp] theorem H61 : H 61 = h61 := rfl
@[simp] theorem H62 : H 62 = h62 := rfl
@[simp] theorem H63 : H 63 = h63 := rfl
@[simp] theorem H64 : H 64 = h64 := rfl
@[simp] theorem H65 : H 65 = h65 := rfl
@[simp] theorem H66 : H 66 = h66 := rfl
@[simp] theorem H67 : H 67 = h67 := rfl
@[simp] theorem H68 : H 68 = h68 := rfl
@[simp] theorem H69 : H 69 = h69 := rfl
@[simp] theorem H70 : H 70 = h70 := rfl
@[simp] theorem H71 : H 71 = h71 := rfl
@[simp] theorem H72 : H 72 = h72 := rfl
@[simp] theorem H73 : H 73 = h73 := rfl
@[simp] theorem H74 : H 74 = h74 := rfl
@[simp] theorem H80 : H 80 = h80 := rfl
@[simp] theorem H81 : H 81 = h81 := rfl
@[simp] theorem H82 : H 82 = h82 := rfl
@[simp] theorem H86 : H 86 = h86 := rfl
@[simp] theorem H91 : H 91 = h91 := rfl
@[simp] theorem H92 : H 92 = h92 := rfl
@[simp] theorem H93 : H 93 = h93 := rfl
@[simp] theorem H94 : H 94 = h94 := rfl
@[simp] theorem H95 : H 95 = h95 := rfl
@[simp] theorem H96 : H 96 = h96 := rfl
@[simp] theorem H97 : H 97 = h97 := rfl
@[simp] theorem H98 : H 98 = h98 := rfl
@[simp] theorem H99 : H 99 = h99 := rfl
@[simp] theorem H100 : H 100 = h100 := rfl
@[simp] theorem H101 : H 101 = h101 := rfl
@[simp] theorem H102 : H 102 = h102 := rfl
@[simp] theorem H104 : H 104 = h104 := rfl
@[simp] theorem H105 : H 105 = h105 := rfl
@[simp] theorem H106 : H 106 = h106 := rfl
@[simp] theorem H107 : H 107 = h107 := rfl
@[simp] theorem H108 : H 108 = h108 := rfl
@[simp] theorem H109 : H 109 = h109 := rfl
@[simp] theorem H111 : H 111 = h111 := rfl
@[simp] theorem H112 : H 112 = h112 := rfl
@[simp] theorem H113 : H 113 = h113 := rfl
@[simp] theorem H114 : H 114 = h114 := rfl
@[simp] theorem H115 : H 115 = h115 := rfl
@[simp] theorem H116 : H 116 = h116 := rfl
@[simp] theorem H117 : H 117 = h117 := rfl
@[simp] theorem H118 : H 118 = h118 := rfl
@[simp] theorem H119 : H 119 = h119 := rfl
@[simp] theorem H120 : H 120 = h120 := rfl
@[simp] theorem H121 : H 121 = h121 := rfl
@[simp] theorem H122 : H 122 = h122 := rfl
@[simp] theorem H124 : H 124 = h124 := rfl
@[simp] theorem H125 : H 125 = h125 := rfl
@[simp] theorem H126 : H 126 = h126 := rfl
@[simp] theorem H127 : H 127 = h127 := rfl
@[simp] theorem H128 : H 128 = h128 := rfl
@[simp] theorem H129 : H 129 = h129 := rfl
@[simp] theorem H130 : H 130 = h130 := rfl
@[simp] theorem H131 : H 131 = h131 := rfl
@[simp] theorem H132 : H 132 = h132 := rfl
@[simp] theorem H133 : H 133 = h133 := rfl
@[simp] theorem H135 : H 135 = h135 := rfl
@[simp] theorem H136 : H 136 = h136 := rfl
@[simp] theorem H137 : H 137 = h137 := rfl
@[simp] theorem H139 : H 139 = h139 := rfl
@[simp] theorem H140 : H 140 = h140 := rfl
@[simp] theorem H141 : H 141 = h141 := rfl
@[simp] theorem H142 : H 142 = h142 := rfl
@[simp] theorem H143 : H 143 = h143 := rfl
@[simp] theorem H144 : H 144 = h144 := rfl
@[simp] theorem H146 : H 146 = h146 := rfl
@[simp] theorem H147 : H 147 = h147 := rfl
@[simp] theorem H148 : H 148 = h148 := rfl
@[simp] theorem H149 : H 149 = h149 := rfl
@[simp] theorem H150 : H 150 = h150 := rfl
@[simp] theorem H151 : H 151 = h151 := rfl
@[simp] theorem H153 : H 153 = h153 := rfl
@[simp] theorem H154 : H 154 = h154 := rfl
@[simp] theorem H155 : H 155 = h155 := rfl
@[simp] theorem H156 : H 156 = h156 := rfl
@[simp] theorem H157 : H 157 = h157 := rfl
@[simp] theorem H158 : H 158 = h158 := rfl
@[simp] theorem H159 : H 159 = h159 := rfl
@[simp] theorem H160 : H 160 = h160 := rfl
@[simp] theorem H100072 : H 100072 = h100072 := rfl
@[simp] theorem H100046 : H 100046 = h100046 := rfl
@[simp] theorem H100011 : H 100011 = h100011 := rfl
@[simp] theorem H100065 : H 100065 = h100065 := rfl
end Go.Proofs.Tryz.Ai
end
section
/- The table of this seat: the functions that are not evaluated by their own code. -/
namespace Go.Proofs.Tryz.Ai
open Go Go.AI Go.RowKit Go.Proofs
set_option linter.unusedVariables false

noncomputable def T : Table
  | 103 => some copyCheckT
  | 69 => some stringT
  | 99 => some growT
  | 133 => some indexT
  | 117 => some countT
  | 54 => some itoaT
  | 115 => some indexST
  | 97 => some atoiT
  | 58 => some replaceAllT
  | 93 => some repeatT
  | 55 => some cutT
  | 56 => some splitT
  | 112 => some hasPrefixT
  | 59 => some joinT
  | _ => none

theorem enters_copyCheck : AI.Enters Tryz.prog 103 := ⟨_, Tryz.func103, by kernel_rfl, by kernel_rfl⟩
theorem enters_String : AI.Enters Tryz.prog 69 := ⟨_, Tryz.func69, by kernel_rfl, by kernel_rfl⟩
theorem enters_Grow : AI.Enters Tryz.prog 99 := ⟨_, Tryz.func99, by kernel_rfl, by kernel_rfl⟩
theorem enters_index : AI.Enters Tryz.prog 133 := ⟨_, Tryz.func133, by kernel_rfl, by kernel_rfl⟩
theorem enters_count : AI.Enters Tryz.prog 117 := ⟨_, Tryz.func117, by kernel_rfl, by kernel_rfl⟩
theorem enters_Itoa : AI.Enters Tryz.prog 54 := ⟨_, Tryz.func54, by kernel_rfl, by kernel_rfl⟩

theorem T_ok {W0 : World} (hl : LaidAll W0) : TableOk Tryz.prog W0.heap.size W0 T := by
  intro f p hf xs s r s' e
  unfold T at hf
  split at hf
  · injection hf with hf; subst hf; exact ⟨enters_copyCheck, copyCheck_ok e⟩
  · injection hf with hf; subst hf; exact ⟨enters_String, string_ok e⟩
  · injection hf with hf; subst hf; exact ⟨enters_Grow, grow_ok e⟩
  · injection hf with hf; subst hf; exact ⟨enters_index, index_ok e⟩
  · injection hf with hf; subst hf; exact ⟨enters_count, count_ok e⟩
  · injection hf with hf; subst hf; exact ⟨enters_Itoa, itoa_ok hl.tab e⟩
  · injection hf with hf; subst hf; exact ⟨⟨_, Tryz.func115, by kernel_rfl, by kernel_rfl⟩, indexS_ok hl e⟩
  · injection hf with hf; subst hf; exact ⟨⟨_, Tryz.func97, by kernel_rfl, by kernel_rfl⟩, atoi_ok hl e⟩
  · injection hf with hf; subst hf; exact ⟨⟨_, Tryz.func58, by kernel_rfl, by kernel_rfl⟩, replaceAll_ok hl e⟩
  · injection hf with hf; subst hf; exact ⟨⟨_, Tryz.func93, by kernel_rfl, by kernel_rfl⟩, repeat_ok e⟩
  · injection hf with hf; subst hf; exact ⟨⟨_, Tryz.func55, by kernel_rfl, by kernel_rfl⟩, cut_ok hl e⟩
  · injection hf with hf; subst hf; exact ⟨⟨_, Tryz.func56, by kernel_rfl, by kernel_rfl⟩, split_ok hl e⟩
  · injection hf with hf; subst hf; exact ⟨⟨_, Tryz.func112, by kernel_rfl, by kernel_rfl⟩, hasPrefix_ok e⟩
  · injection hf with hf; subst hf; exact ⟨⟨_, Tryz.func59, by kernel_rfl, by kernel_rfl⟩, join_ok e⟩
  · cases hf

noncomputable abbrev ev : Oracle := EV Tryz.prog H T

theorem ev_copyCheck (xs : List AV) (s : List (List AV)) : ev 103 xs s = copyCheckT xs s := EV_table rfl xs s
theorem ev_String (xs : List AV) (s : List (List AV)) : ev 69 xs s = stringT xs s := EV_table rfl xs s
theorem ev_Grow (xs : List AV) (s : List (List AV)) : ev 99 xs s = growT xs s := EV_table rfl xs s
theorem ev_index (xs : List AV) (s : List (List AV)) : ev 133 xs s = indexT xs s := EV_table rfl xs s
theorem ev_count (xs : List AV) (s : List (List AV)) : ev 117 xs s = countT xs s := EV_table rfl xs s
theorem ev_Itoa (xs : List AV) (s : List (List AV)) : ev 54 xs s = itoaT xs s := EV_table rfl xs s
theorem ev_indexS (xs : List AV) (s : List (List AV)) : ev 115 xs s = indexST xs s := EV_table rfl xs s
theorem ev_Atoi (xs : List AV) (s : List (List AV)) : ev 97 xs s = atoiT xs s := EV_table rfl xs s
theorem ev_ReplaceAll (xs : List AV) (s : List (List AV)) : ev 58 xs s = replaceAllT xs s := EV_table rfl xs s
theorem ev_Repeat (xs : List AV) (s : List (List AV)) : ev 93 xs s = repeatT xs s := EV_table rfl xs s
theorem ev_Cut (xs : List AV) (s : List (List AV)) : ev 55 xs s = cutT xs s := EV_table rfl xs s
theorem ev_Split (xs : List AV) (s : List (List AV)) : ev 56 xs s = splitT xs s := EV_table rfl xs s
theorem ev_HasPrefix (xs : List AV) (s : List (List AV)) : ev 112 xs s = hasPrefixT xs s := EV_table rfl xs s
theorem ev_Join (xs : List AV) (s : List (List AV)) : ev 59 xs s = joinT xs s := EV_table rfl xs s
end Go.Proofs.Tryz.Ai
end
section
/- tlog's numbers: places in the stored order. -/
namespace Go.Proofs.Tryz.Ai
open Go Go.AI Go.Proofs
set_option maxHeartbeats 400000

def stF : Nat → Nat → Nat
  | 0, _ => 0
  | f + 1, n => if n = 0 then 0 else n + stF f (n / 2)
def storedN (n : Nat) : Nat := stF 64 n
theorem stF_le (f n : Nat) : stF f n ≤ 2 * n := by
  induction f generalizing n with
  | zero => simp [stF]
  | succ f ih => rw [stF]; split; omega; have := ih (n / 2); omega
theorem stF_succ (f n : Nat) : stF (f + 1) n = if n = 0 then 0 else n + stF f (n / 2) := rfl
theorem stF_fuel (f n : Nat) (h : n < 2 ^ f) : stF (f + 1) n = stF f n := by
  induction f generalizing n with
  | zero => simp at h; subst h; rfl
  | succ f ih =>
    rw [stF_succ (f + 1) n, stF_succ f n]
    split
    · rfl
    · rw [ih (n / 2) (by rw [Nat.pow_succ] at h; omega)]
theorem storedN_le (n : Nat) : storedN n ≤ 2 * n := stF_le 64 n
theorem storedN_step (n : Nat) (h0 : n ≠ 0) (h : n < 2 ^ 60) : storedN n = n + storedN (n / 2) := by
  show stF 64 n = n + stF 64 (n / 2)
  rw [stF, if_neg h0, stF_fuel 63 (n / 2) (Nat.lt_of_le_of_lt (Nat.div_le_self n 2) (Nat.lt_trans h (by decide)))]
theorem storedN_zero : storedN 0 = 0 := rfl

theorem stored_eq (n : Nat) (hn : n ≤ 2 ^ 40) (σ) : ev 71 [.int .i64 n] σ = some (.int .i64 (storedN n), σ) := by
  refine EV_post rfl Tryz.func71 rfl (by simp [Tryz.ntmps71]) (by kernel_rfl) (by kernel_rfl) ?_
  simp
  refine Post_loop (I := fun x : Nat × Nat => ⟨[(0, .int .i64 x.1), (3, .int .i64 x.2)], [], σ⟩) (Pr := fun x => x.1 ≤ 2^40 ∧ x.2 ≤ 2^50 ∧ x.2 + storedN x.1 = storedN n) (μ := fun x => x.1) (a := (n, 0)) (by simp) (by simp; omega) ?_
  rintro ⟨a, s⟩ ⟨ha, hs, hr⟩
  simp only at ha hs hr
  have := storedN_le n
  by_cases hc : 0 < a
  · rw [storedN_step a (by omega) (by omega)] at hr
    have c1 : 0 < (a : Int) := by omega
    have c2 : ((a : Int).tdiv 2) = ((a / 2 : Nat) : Int) := by rw [Int.tdiv_eq_ediv_of_nonneg (by omega)]; omega
    simp (maxSteps := 4000000) (disch := omega) [dT, dF, wrap64, c2, hc]
    refine ⟨a / 2, s + a, ⟨by omega, by omega, by omega⟩, by omega, by simp⟩
  · have c1 : a = 0 := by omega
    subst c1
    rw [storedN_zero] at hr
    simp (maxSteps := 4000000) (disch := omega) [dT, dF, wrap64, Tryz.results71, hr]
    omega

theorem within_eq (n level k : Int) (hl : -2^40 ≤ n ∧ n ≤ 2^40) (σ) : ev 44 [.int .i64 n, .int .i64 level, .int .i64 k] σ =
    some (.bool (decide (0 ≤ level ∧ level ≤ 20 ∧ 0 ≤ k ∧ k < n.fdiv (2 ^ level.toNat))), σ) := by
  refine EV_post rfl Tryz.func44 rfl (by simp [Tryz.ntmps44]) (by kernel_rfl) (by kernel_rfl) ?_
  simp
  by_cases h1 : 0 ≤ level
  · by_cases h2 : level ≤ 20
    · by_cases h3 : 0 ≤ k
      · have h4 : min level.toNat 64 = level.toNat := by omega
        have h5 : ¬ level < 0 := by omega
        simp (maxSteps := 4000000) (disch := omega) [dT, dF, wrap64, h1, h2, h3, h4, h5, IntKind.bits, Tryz.results44]
      · simp (maxSteps := 4000000) (disch := omega) [dT, dF, wrap64, h1, h2, h3, Tryz.results44]
    · simp (maxSteps := 4000000) (disch := omega) [dT, dF, wrap64, h1, h2, Tryz.results44]
  · simp (maxSteps := 4000000) (disch := omega) [dT, dF, wrap64, h1, Tryz.results44]
theorem Num_eq (e : Int) (σ) : ev 12 [.int .i64 e] σ = some (.int .i64 e, σ) := by
  refine EV_post rfl Tryz.func12 rfl (by simp [Tryz.ntmps12]) (by kernel_rfl) (by kernel_rfl) ?_
  simp [Tryz.results12]
end Go.Proofs.Tryz.Ai
end
section
/- tlog.Index, Split, Count. -/
namespace Go.Proofs.Tryz.Ai
open Go Go.AI Go.Proofs
set_option maxHeartbeats 400000

def inP (n level k : Int) : Bool := decide (0 ≤ level ∧ level ≤ 20 ∧ 0 ≤ k ∧ k < n.fdiv (2 ^ level.toNat))

theorem fdiv_pow (m l : Nat) : (m : Int).fdiv (2 ^ l) = ((m / 2 ^ l : Nat) : Int) := by
  have : ((2 : Int) ^ l) = ((2 ^ l : Nat) : Int) := by simp
  rw [this, Int.fdiv_eq_ediv_of_nonneg _ (Int.natCast_nonneg _)]; rfl
theorem mul_pow (a l : Nat) : (a : Int) * 2 ^ l = ((a * 2 ^ l : Nat) : Int) := by simp

theorem inP_nat {n level k : Int} (hn : 0 ≤ n) (h : inP n level k = true) : ∃ l i : Nat, level = l ∧ k = i ∧ l ≤ 20 ∧ (i + 1) * 2 ^ l ≤ n.toNat := by
  unfold inP at h
  obtain ⟨h1, h2, h3, h4⟩ := of_decide_eq_true h
  obtain ⟨l, rfl⟩ := Int.eq_ofNat_of_zero_le h1
  obtain ⟨i, rfl⟩ := Int.eq_ofNat_of_zero_le h3
  obtain ⟨m, rfl⟩ := Int.eq_ofNat_of_zero_le hn
  refine ⟨l, i, rfl, rfl, by omega, ?_⟩
  simp only [Int.toNat_natCast] at h4 ⊢
  rw [fdiv_pow] at h4
  have h5 : i + 1 ≤ m / 2 ^ l := by omega
  exact (Nat.le_div_iff_mul_le (Nat.two_pow_pos l)).1 h5
theorem inP_of {m l i : Nat} (hl : l ≤ 20) (h : (i + 1) * 2 ^ l ≤ m) : inP m l i = true := by
  unfold inP
  refine decide_eq_true ⟨by omega, by omega, by omega, ?_⟩
  simp only [Int.toNat_natCast]
  rw [fdiv_pow]
  have := (Nat.le_div_iff_mul_le (Nat.two_pow_pos l)).2 h
  omega

def indexN (l i : Nat) : Nat := storedN ((i + 1) * 2 ^ l - 1) + l

theorem Index_no (level k : Int) (h : inP 1048576 level k = false) (σ) : ev 28 [.int .i64 level, .int .i64 k] σ = some (.tup [.int .i64 0, .int .i64 6], σ) := by
  refine EV_post rfl Tryz.func28 rfl (by simp [Tryz.ntmps28]) (by kernel_rfl) (by kernel_rfl) ?_
  have hw := within_eq 1048576 level k (by omega) σ
  rw [show decide (0 ≤ level ∧ level ≤ 20 ∧ 0 ≤ k ∧ k < Int.fdiv 1048576 (2 ^ level.toNat)) = inP 1048576 level k from rfl, h] at hw
  simp [hw, Tryz.results28]

theorem Index_yes (l i : Nat) (hl : l ≤ 20) (h : (i + 1) * 2 ^ l ≤ 1048576) (σ) : ev 28 [.int .i64 l, .int .i64 i] σ = some (.tup [.int .i64 (indexN l i), .int .i64 0], σ) := by
  refine EV_post rfl Tryz.func28 rfl (by simp [Tryz.ntmps28]) (by kernel_rfl) (by kernel_rfl) ?_
  have hw := within_eq 1048576 l i (by omega) σ
  rw [show decide (0 ≤ (l : Int) ∧ (l : Int) ≤ 20 ∧ 0 ≤ (i : Int) ∧ (i : Int) < Int.fdiv 1048576 (2 ^ (l : Int).toNat)) = inP 1048576 l i from rfl, show inP 1048576 l i = true from inP_of (m := 1048576) hl h] at hw
  have h1 : i ≤ 1048576 := by
    have : i + 1 ≤ (i + 1) * 2 ^ l := Nat.le_mul_of_pos_right _ (Nat.two_pow_pos l)
    omega
  have hp : 0 < (i + 1) * 2 ^ l := Nat.mul_pos (by omega) (Nat.two_pow_pos l)
  obtain ⟨q, hq⟩ : ∃ q, (i + 1) * 2 ^ l = q + 1 := ⟨(i + 1) * 2 ^ l - 1, by omega⟩
  have c1 : IntKind.i64.wrap ((i : Int) + 1) = (i : Int) + 1 := wrap64 (by omega)
  have c2 : min l IntKind.i64.bits = l := by simp [IntKind.bits]; omega
  have c3 : IntKind.i64.wrap (((i : Int) + 1) * 2 ^ l) = (q : Int) + 1 := by
    have := mul_pow (i + 1) l
    rw [hq] at this
    rw [show ((i : Int) + 1) = ((i + 1 : Nat) : Int) from by omega, this, wrap64 (by omega)]; omega
  have hs := stored_eq q (by omega) σ
  have hb := storedN_le q
  have hi : indexN l i = storedN q + l := by unfold indexN; rw [hq]; rfl
  have c6 : ¬ (l : Int) < 0 := by omega
  simp (maxSteps := 4000000) (disch := omega) [dT, dF, wrap64, hw, c2, c6, c3, hs, wrap64, Tryz.results28, hi]
end Go.Proofs.Tryz.Ai
end
section
/- tlog.Count, Split. -/
namespace Go.Proofs.Tryz.Ai
open Go Go.AI Go.Proofs
set_option maxHeartbeats 400000

/-- how many places a record adds -/
theorem stored_even (m : Nat) (h : m < 2 ^ 50) : storedN (2 * m + 1) = storedN (2 * m) + 1 := by
  rw [storedN_step (2 * m + 1) (by omega) (by omega)]
  by_cases h0 : m = 0
  · subst h0; rfl
  · rw [storedN_step (2 * m) (by omega) (by omega), show (2 * m + 1) / 2 = m by omega, show 2 * m / 2 = m by omega]; omega
theorem stored_odd (m : Nat) (h : m < 2 ^ 50) : storedN (2 * m + 2) + storedN m = storedN (2 * m + 1) + storedN (m + 1) + 1 := by
  rw [storedN_step (2 * m + 2) (by omega) (by omega), storedN_step (2 * m + 1) (by omega) (by omega), show (2 * m + 2) / 2 = m + 1 by omega, show (2 * m + 1) / 2 = m by omega]; omega
theorem stored_lt (n : Nat) (h : n < 2 ^ 50) : storedN n < storedN (n + 1) := by
  induction n using Nat.strongRecOn with
  | _ n ih =>
    rcases Nat.mod_two_eq_zero_or_one n with h2 | h2
    · obtain ⟨m, rfl⟩ : ∃ m, n = 2 * m := ⟨n / 2, by omega⟩
      rw [stored_even m (by omega)]; omega
    · obtain ⟨m, rfl⟩ : ∃ m, n = 2 * m + 1 := ⟨n / 2, by omega⟩
      have := stored_odd m (by omega)
      have := ih m (by omega) (by omega)
      show storedN (2 * m + 1) < storedN (2 * m + 2)
      omega
theorem stored_mono {n m : Nat} (h : n ≤ m) (hm : m < 2 ^ 50) : storedN n ≤ storedN m := by
  induction m with
  | zero => have : n = 0 := by omega
            subst this; exact Nat.le_refl _
  | succ m ih =>
    by_cases e : n = m + 1
    · subst e; exact Nat.le_refl _
    · have := ih (by omega) (by omega)
      have := stored_lt m (by omega)
      omega
/-- with the record that ends a whole tree of a level, the levels up to it are stored -/
theorem stored_gap (l k : Nat) (h : (k + 1) * 2 ^ l < 2 ^ 50) : storedN ((k + 1) * 2 ^ l - 1) + l < storedN ((k + 1) * 2 ^ l) := by
  induction l generalizing k with
  | zero => simp; simp at h; exact stored_lt k (by omega)
  | succ l ih =>
    have hp : 0 < (k + 1) * 2 ^ l := Nat.mul_pos (by omega) (Nat.two_pow_pos l)
    have e : (k + 1) * 2 ^ (l + 1) = 2 * ((k + 1) * 2 ^ l) := by rw [Nat.pow_succ]; ac_rfl
    rw [e] at h ⊢
    have := ih k (by omega)
    obtain ⟨m, hm⟩ : ∃ m, (k + 1) * 2 ^ l = m + 1 := ⟨(k + 1) * 2 ^ l - 1, by omega⟩
    rw [hm] at this ⊢
    have h2 := stored_odd m (by omega)
    rw [show m + 1 - 1 = m from rfl] at this
    rw [show 2 * (m + 1) - 1 = 2 * m + 1 by omega, show 2 * (m + 1) = 2 * m + 2 by omega]
    omega
theorem stored_gap_eq (l k : Nat) (h : (k + 1) * 2 ^ l < 2 ^ 50) (hk : k % 2 = 0) : storedN ((k + 1) * 2 ^ l - 1) + l + 1 = storedN ((k + 1) * 2 ^ l) := by
  induction l with
  | zero =>
    obtain ⟨m, rfl⟩ : ∃ m, k = 2 * m := ⟨k / 2, by omega⟩
    simp at h ⊢
    exact (stored_even m (by omega)).symm
  | succ l ih =>
    have hp : 0 < (k + 1) * 2 ^ l := Nat.mul_pos (by omega) (Nat.two_pow_pos l)
    have e : (k + 1) * 2 ^ (l + 1) = 2 * ((k + 1) * 2 ^ l) := by rw [Nat.pow_succ]; ac_rfl
    rw [e] at h ⊢
    have := ih (by omega)
    obtain ⟨m, hm⟩ : ∃ m, (k + 1) * 2 ^ l = m + 1 := ⟨(k + 1) * 2 ^ l - 1, by omega⟩
    rw [hm] at this ⊢
    have h2 := stored_odd m (by omega)
    rw [show m + 1 - 1 = m from rfl] at this
    rw [show 2 * (m + 1) - 1 = 2 * m + 1 by omega, show 2 * (m + 1) = 2 * m + 2 by omega]
    omega

theorem stored_most : storedN 1048576 = 2097151 := by decide +kernel

theorem Split_no (x : Int) (h : x < 0 ∨ 2097151 ≤ x) (σ) : ev 29 [.int .i64 x] σ = some (.tup [.int .i64 0, .int .i64 0, .int .i64 6], σ) := by
  refine EV_post rfl Tryz.func29 rfl (by simp [Tryz.ntmps29]) (by kernel_rfl) (by kernel_rfl) ?_
  have hs : ev 71 [.int .i64 1048576] σ = some (.int .i64 2097151, σ) := by have := stored_eq 1048576 (by omega) σ; rw [stored_most] at this; exact this
  by_cases h1 : x < 0
  · simp (maxSteps := 4000000) (disch := omega) [dT, dF, wrap64, hs, h1, Tryz.results29]
  · have h2 : 2097151 ≤ x := by omega
    simp (maxSteps := 4000000) (disch := omega) [dT, dF, wrap64, hs, h1, h2, Tryz.results29]

theorem Split_yes (x lo l g : Nat) (hl : x = storedN lo + l) (h2 : x < storedN (lo + 1)) (h3 : lo < 1048576) (hg : (lo + 1) / 2 ^ l = g) (σ) :
    ev 29 [.int .i64 x] σ = some (.tup [.int .i64 l, .int .i64 ((g : Int) - 1), .int .i64 0], σ) := by
  refine EV_post rfl Tryz.func29 rfl (by simp [Tryz.ntmps29]) (by kernel_rfl) (by kernel_rfl) ?_
  have hs : ev 71 [.int .i64 1048576] σ = some (.int .i64 2097151, σ) := by have := stored_eq 1048576 (by omega) σ; rw [stored_most] at this; exact this
  have hx : x < 2097151 := by have := stored_mono (n := lo + 1) (m := 1048576) (by omega) (by omega); rw [stored_most] at this; omega
  have q1 : ¬ (x : Int) < 0 := by omega
  have q2 : ¬ 2097151 ≤ (x : Int) := by omega
  simp (maxSteps := 4000000) (disch := omega) [dT, dF, wrap64, hs]
  refine Post_loop (I := fun p : Nat × Nat => ⟨[(0, .int .i64 x), (5, .int .i64 p.1), (6, .int .i64 p.2)], [], σ⟩) (Pr := fun p => p.1 ≤ lo ∧ lo < p.2 ∧ p.2 ≤ 1048576) (μ := fun p => p.2 - p.1) (a := (0, 1048576)) (by simp) (by simp; omega) ?_
  rintro ⟨a, b⟩ ⟨ha, hb, hc⟩
  simp only at ha hb hc
  by_cases hd : 1 < b - a
  · obtain ⟨m, hm⟩ : ∃ m, m = a + (b - a) / 2 := ⟨_, rfl⟩
    have c1 : 1 < (b : Int) - a := by omega
    have c2 : ((b : Int) - a).tdiv 2 = ((m - a : Nat) : Int) := by rw [Int.tdiv_eq_ediv_of_nonneg (by omega)]; omega
    have c3 : IntKind.i64.wrap ((a : Int) + ((m - a : Nat) : Int)) = (m : Int) := by rw [wrap64 (by omega)]; omega
    have hsm := stored_eq m (by omega) σ
    by_cases he : storedN m ≤ x
    · have c4 : (storedN m : Int) ≤ x := by omega
      have : m ≤ lo := by
        rcases Nat.lt_or_ge lo m with q | q
        · have := stored_mono (n := lo + 1) (m := m) (by omega) (by omega); omega
        · exact q
      simp (maxSteps := 4000000) (disch := omega) [dT, dF, wrap64, c1, c2, c3, hsm, he]
      exact ⟨m, b, ⟨by omega, by omega, by omega⟩, by omega, by simp⟩
    · have c4 : ¬ (storedN m : Int) ≤ x := by omega
      have : lo < m := by
        rcases Nat.lt_or_ge lo m with q | q
        · exact q
        · have := stored_mono (n := m) (m := lo) (by omega) (by omega); omega
      simp (maxSteps := 4000000) (disch := omega) [dT, dF, wrap64, c1, c2, c3, hsm, he]
      exact ⟨a, m, ⟨by omega, by omega, by omega⟩, by omega, by simp⟩
  · have : a = lo := by omega
    subst this
    have c1 : ¬ 1 < (b : Int) - a := by omega
    have hsa := stored_eq a (by omega) σ
    have hl2 : l < 2 ^ 40 := by omega
    have c3 : IntKind.i64.wrap ((x : Int) - (storedN a : Int)) = (l : Int) := by rw [wrap64 (by omega)]; omega
    have c4 : ¬ (l : Int) < 0 := by omega
    have c5 : ((a : Int) + 1).fdiv (2 ^ min l 64) = (g : Int) := by
      rw [show ((a : Int) + 1) = ((a + 1 : Nat) : Int) by omega, fdiv_pow, ← hg]
      by_cases q : l ≤ 64
      · rw [show min l 64 = l by omega]
      · rw [show min l 64 = 64 by omega, Nat.div_eq_of_lt (Nat.lt_of_lt_of_le (by omega : a + 1 < 2 ^ 64) (Nat.le_refl _)), Nat.div_eq_of_lt (Nat.lt_of_lt_of_le (by omega : a + 1 < 2 ^ 64) (Nat.pow_le_pow_right (by omega) (by omega)))]
    have c6 : g ≤ a + 1 := by rw [← hg]; exact Nat.div_le_self _ _
    clear hl2 hc hd hx q1 q2 hb
    have w1 : IntKind.i64.wrap ((b : Int) - a) = (b : Int) - a := wrap64 (by omega)
    have w2 : IntKind.i64.wrap ((a : Int) + 1) = (a : Int) + 1 := wrap64 (by omega)
    have w3 : IntKind.i64.wrap ((g : Int) - 1) = (g : Int) - 1 := wrap64 (by omega)
    have w4 : IntKind.i64.wrap (g : Int) = g := wrap64 (by omega)
    simp (maxSteps := 4000000) [w1, w2, c1, hsa, c3, c4, c5, w3, w4, IntKind.bits, Tryz.results29]
end Go.Proofs.Tryz.Ai
end
section
/- strings.Builder, walked over its table entries. -/
namespace Go.Proofs.Tryz.Ai
open Go Go.AI Go.Proofs
set_option maxHeartbeats 1000000
set_option linter.unusedVariables false

/-- a Builder's box: fresh, or with a text -/
def bc (b : Nat) : Option (List UInt8) → List AV
  | none => [.nilp, .sl .nil []]
  | some l => [.gp b 0 (some (SB, 2)), .sl (.ex U8 1) (l.map .u8)]
/-- after its text was taken -/
def bs (b : Nat) : Option (List UInt8) → List AV
  | none => [.nilp, .sl .nil []]
  | some l => [.gp b 0 (some (SB, 2)), .sl .sh (l.map .u8)]
def txt (o : Option (List UInt8)) : List UInt8 := o.getD []
@[simp] theorem txt_some (l : List UInt8) : txt (some l) = l := rfl
@[simp] theorem txt_none : txt none = [] := rfl
@[simp] theorem bc_lowL (b : Nat) (o : Option (List UInt8)) (n : Nat) : lowL n (bc b o) ↔ o = none ∨ b < n := by cases o <;> simp [bc]
@[simp] theorem bs_lowL (b : Nat) (o : Option (List UInt8)) (n : Nat) : lowL n (bs b o) ↔ o = none ∨ b < n := by cases o <;> simp [bs]

theorem one_most : 1 ≤ most := by unfold most; omega

theorem WriteByte_b (b : Nat) (σ : List (List AV)) (o : Option (List UInt8)) (hl : (txt o).length + 1 ≤ most) (c : UInt8) (hb : σ[b]? = some (bc b o)) :
    ev 68 [.gp b 0 (some (SB, 2)), .u8 c] σ = some (.nili, σ.set b (bc b (some (txt o ++ [c])))) := by
  have hlt : b < σ.length := (List.getElem?_eq_some_iff.1 hb).1
  have h1 := one_most
  refine EV_post rfl Tryz.func68 rfl (by simp [Tryz.ntmps68]) (by kernel_rfl) (by kernel_rfl) ?_
  cases o with
  | none =>
    simp only [bc] at hb ⊢
    simp (maxSteps := 4000000) (disch := omega) [dT, dF, wrap64, -getElem?_pos, List.getElem?_cons_zero, List.getElem?_cons_succ, List.getElem?_set, ev_copyCheck, copyCheckT, hb, hlt, Tryz.results68, h1, SB, U8]
  | some l =>
    simp only [bc, txt_some] at hb hl ⊢
    simp (maxSteps := 4000000) (disch := omega) [dT, dF, wrap64, -getElem?_pos, List.getElem?_cons_zero, List.getElem?_cons_succ, List.getElem?_set, ev_copyCheck, copyCheckT, hb, hlt, Tryz.results68, hl, SB, U8]
theorem WriteByte_eq (σ τ : List (List AV)) (o : Option (List UInt8)) (hl : (txt o).length + 1 ≤ most) (c : UInt8) :
    ev 68 [.gp σ.length 0 (some (SB, 2)), .u8 c] (σ ++ bc σ.length o :: τ) = some (.nili, σ ++ bc σ.length (some (txt o ++ [c])) :: τ) := by
  have := WriteByte_b σ.length (σ ++ bc σ.length o :: τ) o hl c (by simp)
  rw [this]; simp
theorem WriteString_b (b : Nat) (σ : List (List AV)) (o : Option (List UInt8)) (m : List UInt8) (hl : (txt o).length + m.length ≤ most) (hb : σ[b]? = some (bc b o)) :
    ev 100 [.gp b 0 (some (SB, 2)), .str m] σ = some (.tup [.int .i64 m.length, .nili], σ.set b (bc b (some (txt o ++ m)))) := by
  have hlt : b < σ.length := (List.getElem?_eq_some_iff.1 hb).1
  have h1 : m.length ≤ most := by omega
  refine EV_post rfl Tryz.func100 rfl (by simp [Tryz.ntmps100]) (by kernel_rfl) (by kernel_rfl) ?_
  cases o with
  | none =>
    simp only [bc, txt_none] at hb hl ⊢
    simp (maxSteps := 4000000) (disch := omega) [dT, dF, wrap64, -getElem?_pos, List.getElem?_cons_zero, List.getElem?_cons_succ, List.getElem?_set, ev_copyCheck, copyCheckT, hb, hlt, Tryz.results100, h1, SB, U8]
  | some l =>
    simp only [bc, txt_some] at hb hl ⊢
    simp (maxSteps := 4000000) (disch := omega) [dT, dF, wrap64, -getElem?_pos, List.getElem?_cons_zero, List.getElem?_cons_succ, List.getElem?_set, ev_copyCheck, copyCheckT, hb, hlt, Tryz.results100, hl, SB, U8]
theorem WriteString_eq (σ τ : List (List AV)) (o : Option (List UInt8)) (m : List UInt8) (hl : (txt o).length + m.length ≤ most) :
    ev 100 [.gp σ.length 0 (some (SB, 2)), .str m] (σ ++ bc σ.length o :: τ) = some (.tup [.int .i64 m.length, .nili], σ ++ bc σ.length (some (txt o ++ m)) :: τ) := by
  have := WriteString_b σ.length (σ ++ bc σ.length o :: τ) o m hl (by simp)
  rw [this]; simp
theorem bytesOf_map (l : List UInt8) : bytesOf (l.map .u8) = some l := by
  induction l with
  | nil => rfl
  | cons x r ih => simp only [List.map_cons, AV.u8] at ih ⊢; unfold bytesOf; simp [ih]
theorem String_b (b : Nat) (σ : List (List AV)) (o : Option (List UInt8)) (hb : σ[b]? = some (bc b o)) :
    ev 69 [.gp b 0 (some (SB, 2))] σ = some (.str (txt o), σ.set b (bs b o)) := by
  show ev 69 _ _ = _
  rw [ev_String]
  cases o with
  | none =>
    simp only [bc, bs, txt_none] at hb ⊢
    have : σ.set b [AV.nilp, .sl .nil []] = σ := by
      apply List.ext_getElem?; intro i; rw [List.getElem?_set]
      split
      · rename_i e; subst e; rw [hb]; simp [(List.getElem?_eq_some_iff.1 hb).1]
      · rfl
    rw [this]
    simp [-getElem?_pos, stringT, hb]
  | some l =>
    simp only [bc, bs, txt_some] at hb ⊢
    simp [-getElem?_pos, -AV.u8, stringT, hb, bytesOf_map, bnd]
theorem String_eq (σ τ : List (List AV)) (o : Option (List UInt8)) :
    ev 69 [.gp σ.length 0 (some (SB, 2))] (σ ++ bc σ.length o :: τ) = some (.str (txt o), σ ++ bs σ.length o :: τ) := by
  have := String_b σ.length (σ ++ bc σ.length o :: τ) o (by simp)
  rw [this]; simp
end Go.Proofs.Tryz.Ai
end
section
/- strconv.Itoa of small numbers; strings.Repeat of two zeros. -/
namespace Go.Proofs.Tryz.Ai
open Go Go.AI Go.Proofs
set_option maxHeartbeats 2000000
set_option linter.unusedVariables false

theorem digs : ∀ n : Nat, n < 10 → (List.take (n + 1) ([48, 49, 50, 51, 52, 53, 54, 55, 56, 57, 97, 98, 99, 100, 101, 102, 103, 104, 105, 106, 107, 108, 109, 110, 111, 112, 113, 114, 115, 116, 117, 118, 119, 120, 121, 122] : List UInt8)).drop n = [UInt8.ofNat (48 + n)] := by decide
theorem small_eq (n : Nat) (h : n < 10) (σ) : ev 129 [.int .i64 n] σ = some (.str [UInt8.ofNat (48 + n)], σ) := by
  refine EV_post rfl Tryz.func129 rfl (by simp [Tryz.ntmps129]) (by kernel_rfl) (by kernel_rfl) ?_
  have h1 : (n : Int) < 10 := by omega
  have h2 := digs n h
  dsimp only at h2
  have h6 : (0 : Int) ≤ (n : Int) + 1 := by omega
  have h3 : n ≤ 36 := by omega
  have h4 : n + 1 ≤ 36 := by omega
  have h5 : n < 36 := by omega
  simp (maxSteps := 4000000) (disch := omega) [dT, dF, wrap64, h1, h2, h3, h4, h5, h6, -List.take_succ_cons, Tryz.results129]
theorem Itoa_dig (n : Nat) (h : n < 10) (σ) : ev 54 [.int .i64 n] σ = some (.str [UInt8.ofNat (48 + n)], σ) := by
  rw [ev_Itoa]
  have : Lib.itoa (n : Int) = [UInt8.ofNat (48 + n)] := by unfold Lib.itoa; rw [if_neg (by omega), Int.toNat_natCast, Lib.decDigits_one h]
  simp only [itoaT]
  rw [need_of (by omega), this]
theorem HasPrefix_eq (a b : List UInt8) (σ) : ev 112 [.str a, .str b] σ = some (.bool (b.isPrefixOf a), σ) := by
  rw [ev_HasPrefix]; rfl
theorem Mul_small (σ) : ev 111 [.int .u64 1, .int .u64 2] σ = some (.tup [.int .u64 0, .int .u64 2], σ) := by
  have h1 : ∀ σ, ev 127 [.int .u64 1, .int .u64 2] σ = some (.tup [.int .u64 0, .int .u64 2], σ) := by
    intro σ
    refine EV_post rfl Tryz.func127 rfl (by simp [Tryz.ntmps127]) (by kernel_rfl) (by kernel_rfl) ?_
    simp (maxSteps := 4000000) [List.getElem?_cons_zero, List.getElem?_cons_succ, Tryz.results127]
    decide +kernel
  refine EV_post rfl Tryz.func111 rfl (by simp [Tryz.ntmps111]) (by kernel_rfl) (by kernel_rfl) ?_
  simp (maxSteps := 4000000) [List.getElem?_cons_zero, List.getElem?_cons_succ, h1, Tryz.results111]
theorem zeros : ∀ n : Nat, n ≤ 2 → (List.take n ([48, 48, 48, 48, 48, 48, 48, 48, 48, 48, 48, 48, 48, 48, 48, 48, 48, 48, 48, 48, 48, 48, 48, 48, 48, 48, 48, 48, 48, 48, 48, 48, 48, 48, 48, 48, 48, 48, 48, 48, 48, 48, 48, 48, 48, 48, 48, 48, 48, 48, 48, 48, 48, 48, 48, 48, 48, 48, 48, 48, 48, 48, 48, 48] : List UInt8)) = List.replicate n 48 := by decide
theorem Repeat_zeros (σ) : ev 93 [.str [48], .int .i64 2] σ = some (.str [48, 48], σ) := by
  rw [ev_Repeat]
  simp only [repeatT]
  rw [need_of ⟨by omega, by omega, by decide⟩]
  rfl
end Go.Proofs.Tryz.Ai
end
section
/- ark.Hex. -/
namespace Go.Proofs.Tryz.Ai
open Go Go.AI Go.Proofs
set_option maxHeartbeats 1000000
set_option linter.unusedVariables false

def hexDigit (n : Nat) : UInt8 := [48, 49, 50, 51, 52, 53, 54, 55, 56, 57, 97, 98, 99, 100, 101, 102].getD n 0
def hexB (b : UInt8) : List UInt8 := [hexDigit (b.toNat / 16), hexDigit (b.toNat % 16)]
def hexL (l : List UInt8) : List UInt8 := l.flatMap hexB
theorem hexL_len (l : List UInt8) : (hexL l).length = 2 * l.length := by
  induction l with
  | nil => rfl
  | cons a r ih => simp only [hexL, List.flatMap_cons, List.length_append, List.length_cons] at ih ⊢; rw [ih]; simp [hexB]; omega
theorem hexL_succ (l : List UInt8) (i : Nat) (h : i < l.length) : hexL (l.take (i + 1)) = hexL (l.take i) ++ hexB l[i] := by
  rw [List.take_succ_eq_append_getElem h]; simp only [hexL, List.flatMap_append, List.flatMap_cons, List.flatMap_nil, List.append_nil]

theorem Hex_eq (o : Own) (l : List UInt8) (hl : l.length ≤ 2 ^ 30) (σ) : ev 26 [.sl o (l.map .u8)] σ = some (.str (hexL l), σ) := by
  have hw := fun (q : Option (List UInt8)) (c : UInt8) (h : (txt q).length + 1 ≤ most) => WriteByte_eq σ [] q h c
  have hs := fun (q : Option (List UInt8)) => String_eq σ [] q
  refine EV_post rfl Tryz.func26 rfl (by simp [Tryz.ntmps26]) (by kernel_rfl) (by kernel_rfl) ?_
  simp (maxSteps := 4000000) (disch := omega) [dT, dF, wrap64]
  refine Post_loop (I := fun p : Nat × Option (List UInt8) => ⟨[(3, .gp σ.length 0 (some (SB, 2))), (6, .sl o (l.map .u8)), (7, .int .i64 l.length), (8, .int .i64 p.1)], [], σ ++ [bc σ.length p.2]⟩)
    (Pr := fun p => p.1 ≤ l.length ∧ txt p.2 = hexL (l.take p.1)) (μ := fun p => l.length - p.1) (a := (0, none)) (by simp [bc, SB]) (by simp [hexL]) ?_
  rintro ⟨i, q⟩ ⟨hi, hq⟩
  simp only at hi hq ⊢
  have hql : (txt q).length ≤ 2 ^ 31 := by rw [hq, hexL_len]; simp; omega
  by_cases hc : i < l.length
  · have q1 : (i : Int) < l.length := by omega
    obtain ⟨x, hx⟩ : ∃ x, l[i] = x := ⟨_, rfl⟩
    have hx2 : l[i]? = some x := by rw [← hx]; exact List.getElem?_eq_getElem hc
    have hb : (x.toNat) < 256 := x.toNat_lt
    have e0 : IntKind.i64.wrap ((i : Int) + 1) = (i : Int) + 1 := wrap64 (by omega)
    have hd : ∀ n : Nat, n < 16 → ([48, 49, 50, 51, 52, 53, 54, 55, 56, 57, 97, 98, 99, 100, 101, 102] : List UInt8)[n]? = some (hexDigit n) := by decide
    obtain ⟨m1, hm1⟩ : ∃ m, x.toNat / 16 = m := ⟨_, rfl⟩
    obtain ⟨m2, hm2⟩ : ∃ m, x.toNat % 16 = m := ⟨_, rfl⟩
    have e1 : IntKind.u8.wrap ((x.toNat : Int) / 16) = (m1 : Int) := by rw [wrapU8 (by omega)]; omega
    have e2 : (x.toNat : Int).tmod 16 = (m2 : Int) := by rw [Int.tmod_eq_emod_of_nonneg (by omega)]; omega
    have d1 := hd m1 (by omega)
    have d2 := hd m2 (by omega)
    have w1 := hw q (hexDigit m1) (by unfold most; omega)
    have w2 := hw (some (txt q ++ [hexDigit m1])) (hexDigit m2) (by simp; unfold most; omega)
    simp only [AV.u8] at w1 w2
    have hfin := hexL_succ l i hc
    rw [hx] at hfin
    clear hd hw
    simp (maxSteps := 4000000) [-getElem?_pos, List.getElem?_cons_zero, q1, hc, hx2, e0, e1, e2, d1, d2, w1, w2]
    refine ⟨i + 1, some (txt (some (txt q ++ [hexDigit m1])) ++ [hexDigit m2]), ⟨by omega, ?_⟩, by omega, by omega, by simp⟩
    rw [hfin, ← hq]
    simp [hexB, hm1, hm2]
  · have hi' : i = l.length := by omega
    subst hi'
    have c1 : ¬ (l.length : Int) < l.length := by omega
    simp only [List.take_length] at hq
    simp (maxSteps := 4000000) [c1, hs, hq, Tryz.results26]
end Go.Proofs.Tryz.Ai
end
section
/- SHA-256: words turned; a block's numbers. -/
namespace Go.Proofs.Tryz.Ai
open Go Go.AI Go.Proofs
set_option maxHeartbeats 400000

def wor (a b : Int) : Int := bits .or .u32 a b
def wxor (a b : Int) : Int := bits .xor .u32 a b
def wand (a b : Int) : Int := bits .and .u32 a b
def wnot (a : Int) : Int := bits .xor .u32 4294967295 a
def wadd (a b : Int) : Int := IntKind.u32.wrap (a + b)
/-- a word turned to the right -/
def rotr (x : Int) (n : Nat) : Int := wor (IntKind.u32.wrap (x * 2 ^ (32 - n))) (x.fdiv (2 ^ n))
def byteI (b : List UInt8) (i : Nat) : Int := ((b.getD i 0).toNat : Int)
def wordAt (b : List UInt8) (i : Nat) : Int :=
  wor (wor (wor (IntKind.u32.wrap (byteI b (4 * i) * 16777216)) (IntKind.u32.wrap (byteI b (4 * i + 1) * 65536))) (IntKind.u32.wrap (byteI b (4 * i + 2) * 256))) (byteI b (4 * i + 3))
def sig0 (x : Int) : Int := wxor (wxor (rotr x 7) (rotr x 18)) (x.fdiv 8)
def sig1 (x : Int) : Int := wxor (wxor (rotr x 17) (rotr x 19)) (x.fdiv 1024)
def nextW (w : List Int) (n : Nat) : Int := wadd (wadd (wadd (w.getD (n - 16) 0) (sig0 (w.getD (n - 15) 0))) (w.getD (n - 7) 0)) (sig1 (w.getD (n - 2) 0))
/-- the first numbers of a block -/
def sched (b : List UInt8) : Nat → List Int
  | 0 => []
  | n + 1 => sched b n ++ [if n < 16 then wordAt b n else nextW (sched b n) n]
theorem sched_len (b : List UInt8) (n : Nat) : (sched b n).length = n := by
  induction n with
  | zero => rfl
  | succ n ih => simp [sched, ih]

theorem or_fold (a b : Int) : bits .or .u32 a b = wor a b := rfl
theorem xor_fold (a b : Int) : bits .xor .u32 a b = wxor a b := rfl
theorem and_fold (a b : Int) : bits .and .u32 a b = wand a b := rfl
theorem add_fold (a b : Int) : IntKind.u32.wrap (a + b) = wadd a b := rfl

theorem rotl_eq (x k : Int) (n : Nat) (hk : bits .and .u64 (IntKind.u64.wrap k) 31 = ((32 - n : Nat) : Int)) (hn : n ≤ 32) (σ) : ev 146 [.int .u32 x, .int .i64 k] σ = some (.int .u32 (rotr x n), σ) := by
  refine EV_post rfl Tryz.func146 rfl (by simp [Tryz.ntmps146]) (by kernel_rfl) (by kernel_rfl) ?_
  have h1 : ¬ ((32 - n : Nat) : Int) < 0 := by omega
  have h2 : IntKind.u64.wrap (32 - ((32 - n : Nat) : Int)) = (n : Int) := by rw [wrapU64 (by omega)]; omega
  have h3 : ¬ (n : Int) < 0 := by omega
  have h4 : min (32 - n) 32 = 32 - n := by omega
  have h5 : min n 32 = n := by omega
  clear hn
  simp [hk, h1, h2, h3, h4, h5, IntKind.bits, Tryz.results146, rotr, wor]

theorem right_eq (x : Int) (n : Nat) (hn : n = 2 ∨ n = 6 ∨ n = 7 ∨ n = 11 ∨ n = 13 ∨ n = 17 ∨ n = 18 ∨ n = 19 ∨ n = 22 ∨ n = 25) (σ) : ev 125 [.int .u32 x, .int .i64 n] σ = some (.int .u32 (rotr x n), σ) := by
  refine EV_post rfl Tryz.func125 rfl (by simp [Tryz.ntmps125]) (by kernel_rfl) (by kernel_rfl) ?_
  have h := rotl_eq x (IntKind.i64.wrap (0 - (n : Int))) n (by rcases hn with rfl | rfl | rfl | rfl | rfl | rfl | rfl | rfl | rfl | rfl <;> decide +kernel) (by omega) σ
  clear hn
  simp at h
  simp [h, Tryz.results125]
end Go.Proofs.Tryz.Ai
end
section
/- SHA-256: a block's numbers, walked. -/
namespace Go.Proofs.Tryz.Ai
open Go Go.AI Go.Proofs
set_option maxHeartbeats 1000000

/-- the array while it is filled -/
def cellsW (b : List UInt8) (n : Nat) : List AV := (sched b n).map (.int .u32) ++ List.replicate (64 - n) (.int .u32 0)
theorem cellsW_len (b : List UInt8) (n : Nat) (h : n ≤ 64) : (cellsW b n).length = 64 := by simp [cellsW, sched_len]; omega
theorem cellsW_get (b : List UInt8) (n j : Nat) (h : j < n) : (cellsW b n)[j]? = some (.int .u32 ((sched b n).getD j 0)) := by
  have hj : j < (sched b n).length := by rw [sched_len]; exact h
  unfold cellsW
  rw [List.getElem?_append_left (by simpa using hj), List.getElem?_map, List.getElem?_eq_getElem hj]
  simp [List.getD, hj]
theorem cellsW_set (b : List UInt8) (n : Nat) (v : Int) (h : n < 64) (hv : v = if n < 16 then wordAt b n else nextW (sched b n) n) : (cellsW b n).take n ++ .int .u32 v :: (cellsW b n).drop (n + 1) = cellsW b (n + 1) := by
  have e : 64 - n = (64 - (n + 1)) + 1 := by omega
  unfold cellsW
  rw [e, List.replicate_succ]
  rw [List.take_append_of_le_length (by simp [sched_len]), List.take_of_length_le (by simp [sched_len])]
  rw [List.drop_append, List.drop_eq_nil_of_le (by simp [sched_len])]
  simp only [List.length_map, sched_len, sched, hv]
  rw [show n + 1 - n = 1 by omega]
  simp

theorem schedule_eq (b : List UInt8) (hb : b.length = 64) (o : Own) (σ) : ev 124 [.sl o (b.map .u8)] σ = some (.agg ((sched b 64).map (.int .u32)), σ) := by
  refine EV_post rfl Tryz.func124 rfl (by simp [Tryz.ntmps124]) (by kernel_rfl) (by kernel_rfl) ?_
  simp
  refine Post_loop (I := fun n : Nat => ⟨[(0, .sl o (b.map .u8)), (2, .lp 2 0), (3, .lp 3 0), (10, .int .i64 n)], [(2, List.replicate 64 (.int .u32 0)), (3, cellsW b n)], σ⟩) (Pr := fun n => n ≤ 64) (μ := fun n => 64 - n) (a := 0) (by simp [cellsW, sched]) (by omega) ?_
  intro n hn
  have hlen := cellsW_len b n hn
  by_cases hc : n < 64
  · have w1 : IntKind.i64.wrap ((n : Int) + 1) = (n : Int) + 1 := wrap64 (by omega)
    have h63 : n ≤ 63 := by omega
    by_cases h16 : n < 16
    · have q1 : (n : Int) < 64 := by omega
      have q2 : (n : Int) < 16 := by omega
      obtain ⟨m, hm⟩ : ∃ m, 4 * n = m := ⟨_, rfl⟩
      have e4 : IntKind.i64.wrap (4 * (n : Int)) = (m : Int) := by rw [wrap64 (by omega)]; omega
      obtain ⟨x0, hx0⟩ : ∃ x, b[m]? = some x := ⟨_, List.getElem?_eq_getElem (by omega)⟩
      obtain ⟨x1, hx1⟩ : ∃ x, b[m + 1]? = some x := ⟨_, List.getElem?_eq_getElem (by omega)⟩
      obtain ⟨x2, hx2⟩ : ∃ x, b[m + 2]? = some x := ⟨_, List.getElem?_eq_getElem (by omega)⟩
      obtain ⟨x3, hx3⟩ : ∃ x, b[m + 3]? = some x := ⟨_, List.getElem?_eq_getElem (by omega)⟩
      have e5 : m ≤ 64 := by omega
      have hset := cellsW_set b n (wordAt b n) hc (by rw [if_pos h16])
      have hw : wordAt b n = wor (wor (wor (IntKind.u32.wrap ((x0.toNat : Int) * 16777216)) (IntKind.u32.wrap ((x1.toNat : Int) * 65536))) (IntKind.u32.wrap ((x2.toNat : Int) * 256))) (x3.toNat : Int) := by
        simp [wordAt, byteI, List.getD, hm, hx0, hx1, hx2, hx3]
      rw [hw] at hset
      clear hw hm
      simp (maxSteps := 4000000) [q1, q2, e4, e5, hb, hx0, hx1, hx2, hx3, wrapU32_byte, hlen, hc, h63, w1, or_fold, IntKind.bits, hset]
      exact ⟨n + 1, by omega, by omega, by simp, rfl⟩
    · have q1 : (n : Int) < 64 := by omega
      have q2 : ¬ (n : Int) < 16 := by omega
      obtain ⟨m1, h1⟩ : ∃ m, n - 15 = m := ⟨_, rfl⟩
      obtain ⟨m2, h2⟩ : ∃ m, n - 2 = m := ⟨_, rfl⟩
      obtain ⟨m3, h3⟩ : ∃ m, n - 16 = m := ⟨_, rfl⟩
      obtain ⟨m4, h4⟩ : ∃ m, n - 7 = m := ⟨_, rfl⟩
      have e1 : IntKind.i64.wrap ((n : Int) - 15) = (m1 : Int) := by rw [wrap64 (by omega)]; omega
      have e2 : IntKind.i64.wrap ((n : Int) - 2) = (m2 : Int) := by rw [wrap64 (by omega)]; omega
      have e3 : IntKind.i64.wrap ((n : Int) - 16) = (m3 : Int) := by rw [wrap64 (by omega)]; omega
      have e4 : IntKind.i64.wrap ((n : Int) - 7) = (m4 : Int) := by rw [wrap64 (by omega)]; omega
      have g1 := cellsW_get b n m1 (by omega)
      have g2 := cellsW_get b n m2 (by omega)
      have g3 := cellsW_get b n m3 (by omega)
      have g4 := cellsW_get b n m4 (by omega)
      have l1 : m1 < 64 := by omega
      have l2 : m2 < 64 := by omega
      have l3 : m3 < 64 := by omega
      have l4 : m4 < 64 := by omega
      have r1 : ∀ x, ev 125 [.int .u32 x, .int .i64 7] σ = some (.int .u32 (rotr x 7), σ) := fun x => right_eq x 7 (by omega) σ
      have r2 : ∀ x, ev 125 [.int .u32 x, .int .i64 18] σ = some (.int .u32 (rotr x 18), σ) := fun x => right_eq x 18 (by omega) σ
      have r3 : ∀ x, ev 125 [.int .u32 x, .int .i64 17] σ = some (.int .u32 (rotr x 17), σ) := fun x => right_eq x 17 (by omega) σ
      have r4 : ∀ x, ev 125 [.int .u32 x, .int .i64 19] σ = some (.int .u32 (rotr x 19), σ) := fun x => right_eq x 19 (by omega) σ
      have hset := cellsW_set b n (nextW (sched b n) n) hc (by rw [if_neg h16])
      unfold nextW sig0 sig1 at hset
      rw [h1, h2, h3, h4] at hset
      generalize (sched b n).getD m1 0 = y1 at *
      generalize (sched b n).getD m2 0 = y2 at *
      generalize (sched b n).getD m3 0 = y3 at *
      generalize (sched b n).getD m4 0 = y4 at *
      clear h1 h2 h3 h4
      simp (maxSteps := 4000000) [-getElem?_pos, q1, q2, e1, e2, e3, e4, g1, g2, g3, g4, l1, l2, l3, l4, r1, r2, r3, r4, hlen, hc, h63, w1, xor_fold, add_fold, IntKind.bits, hset]
      exact ⟨n + 1, by omega, by omega, by simp, rfl⟩
  · have hn64 : n = 64 := by omega
    subst hn64
    have e : cellsW b 64 = (sched b 64).map (.int .u32) := by simp [cellsW]
    rw [e] at hlen ⊢
    have hd : ((sched b 64).map (AV.int .u32)).take 64 = (sched b 64).map (.int .u32) := List.take_of_length_le (by simp [sched_len])
    simp (maxSteps := 4000000) [hlen, Tryz.results124, hd, sched_len]
end Go.Proofs.Tryz.Ai
end
