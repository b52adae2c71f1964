/- Part 3 of a proof: a Go function is evaluated on abstract values (texts AiGo .. AiBox); no conditions beyond those of each theorem. -/
import Derived.Test.YthdpejligoblbaaGreatDoorAi2
import Derived.Lib.UnsafeStr
set_option linter.all false
set_option linter.unusedVariables false
set_option linter.unusedSimpArgs false
set_option linter.unnecessarySimpa false
section
/- A drawn region, one operation at a time. No program is in sight. -/
namespace Go.AI
set_option linter.unusedVariables false
section
variable {P : Program} {h : Hint} {C : Oracle}
def PostD (x : Option St) (K : St → Prop) : Prop := ∃ s, x = some s ∧ K s
theorem PostD_go {ds : List Nat} {ops r : List Oper} {st : St} {o : Oper} {K : St → Prop} (st1 : St) (hw : wantedA ops o.guard st = some true) (hp : preD h o st = true) (hs : stepOp P h C o st = some st1)
    (hS : allowS h o = true ∨ st1.s = st.s) (hq : postD h ds o st1.t = true) (k : PostD (runD P h C ds ops r st1) K) : PostD (runD P h C ds ops (o :: r) st) K := by
  rw [runD, hw, sel_true, if_pos hp, hs, bnd_some, need, if_pos hS, if_pos hq]; exact k
theorem PostD_no {ds : List Nat} {ops r : List Oper} {st : St} {o : Oper} {K : St → Prop} (hw : wantedA ops o.guard st = some false) (hq : okAll ds st.t (tkT h o).toList = true)
    (k : PostD (runD P h C ds ops r (st.put o.dst (.tup []))) K) : PostD (runD P h C ds ops (o :: r) st) K := by
  rw [runD, hw, sel_false, if_pos hq]; exact k
theorem PostD_end {ds : List Nat} {ops : List Oper} {st : St} {K : St → Prop} (k : K st) : PostD (runD P h C ds ops [] st) K := ⟨st, by rw [runD], k⟩
theorem Post_bndD {ops : List Oper} {st : St} {F : St → St} {K : Ex → St → Prop} (ds : List Nat) (st0 : St) (e : allocDs ops = ds) (e0 : startD ds st = st0)
    (k : PostD (runD P h C ds ops ops st0) fun s => K .normal (F s)) : Post (bnd (regionA P h C ops true st) fun st => some (Ex.normal, F st)) K := by
  obtain ⟨s, h1, h2⟩ := k
  rw [regionA, if_pos rfl, e, e0, h1]; exact ⟨_, _, rfl, h2⟩
end
end Go.AI
end
section
/- Boxes that may be handed on, cell by cell; frozen rows. No program is in sight. -/
namespace Go.AI
open Go.RowKit
set_option linter.unusedVariables false

section
variable {P : Program} {B : Nat} {T0 : Nat → Prop} {μ0 : Gh} {w0 : World} {N : Nat} {μ : Gh} {lx : Nat → Option Nat} {a : Act} {w : World} {st : St}

theorem Sim.gp_open {i b off : Nat} {sh : Option (TypeId × Nat)} {cs : List AV} (h : Sim B T0 μ0 w0 N μ lx a w st) (hi : look st.t i = some (.gp b off sh)) (hb : st.s[b]? = some cs) (hne : cs ≠ []) :
    ∃ blk cur ty, a.tmps.getD i undef = .pointer (some ⟨blk, off, none⟩) ∧ μ.bx b = some blk ∧ Blk w blk cur ty ∧ cs.length ≤ cur.size ∧ μ.fr blk = 0 ∧
      (∀ (j : Nat) (c : AV), cs[j]? = some c → cell1 c = true ∧ Rep B μ w (cur.getD j undef) c ∧ Tk1 B μ w (cur.getD j undef) c) ∧ (∀ s, sh = some s → (ty, cur.size) = s) := by
  have hf := h.tmp i _ hi
  have hr := hf.1
  generalize hv : a.tmps.getD i undef = v at hr
  cases hr with
  | gp _ _ blk _ hq hs =>
    obtain ⟨cur, ty, g1, g2, g3, g4⟩ := h.glb b cs blk hb hq hne
    exact ⟨blk, cur, ty, rfl, hq, g1, g2, g3, g4, fun s e => by have := hs s e; rw [g1.shape] at this; injection this⟩

theorem Sim.setGlobCell {b blk j : Nat} {cs : List AV} {vs : Array Value} {ty : TypeId} {v : Value} {c : AV} (h : Sim B T0 μ0 w0 N μ lx a w st) (hl : st.s[b]? = some cs) (hb : μ.bx b = some blk)
    (hh : Blk w blk vs ty) (hj : j < cs.length) (r : Res B T0 w0 μ lx a w st v c) (hc : cell1 c = true) :
    Sim B T0 μ0 w0 N μ lx a (w.setCell ⟨blk, j, none⟩ v) { st with s := st.s.set b (cs.set j c) } := by
  have hne : cs ≠ [] := fun e => by subst e; simp at hj
  obtain ⟨vs0, ty0, g1, g2, g3, g4⟩ := h.glb b cs blk hl hb hne
  obtain ⟨fz, hh', hok⟩ := hh
  obtain ⟨rfl, rfl⟩ : vs0 = vs ∧ ty0 = ty := by
    obtain ⟨fz1, g1, _⟩ := g1
    rw [hh'] at g1; injection g1 with g1; injection g1 with e1 e2; exact ⟨e1.symm, e2.symm⟩
  have hh : Blk w blk vs0 ty0 := ⟨fz, hh', hok⟩
  have hjv : j < vs0.size := Nat.lt_of_lt_of_le hj g2
  have hrep : Rep B μ w v c := r.full.rep fun d i e => by subst e; cases hc
  have htk : Tk1 B μ w v c := by
    have := r.full
    cases c with
    | lp d i => cases hc
    | tup xs => cases hc
    | _ => exact this.2
  rw [setCell_eq_setRow w blk j vs0 ty0 fz v hh']
  have hget : ∀ j', (vs0.setIfInBounds j v).getD j' undef = if j' = j then v else vs0.getD j' undef := by
    intro j'
    simp only [Array.getD_eq_getD_getElem?, Array.getElem?_setIfInBounds]
    by_cases e : j' = j
    · subst e; simp [hjv]
    · rw [if_neg (fun q => e q.symm), if_neg e]
  have hcs : ∀ (j' : Nat) (c' : AV), (cs.set j c)[j']? = some c' → (j' = j ∧ c' = c) ∨ (j' ≠ j ∧ cs[j']? = some c') := by
    intro j' c' e
    rw [List.getElem?_set] at e
    by_cases q : j = j'
    · subst q; simp [hj] at e; exact .inl ⟨rfl, e.symm⟩
    · rw [if_neg q] at e; exact .inr ⟨fun e => q e.symm, e⟩
  have oldown : ∀ (j' k : Nat) (c' : AV), cs[j']? = some c' → exBlk (vs0.getD j' undef) c' = some k → own a lx μ w st (.gc b j') = some k := by
    intro j' k c' hc e
    have hj' : j' < vs0.size := Nat.lt_of_lt_of_le (List.getElem?_eq_some_iff.1 hc).1 g2
    have hq : vs0[j']? = some (vs0.getD j' undef) := by simp [Array.getD_eq_getD_getElem?, hj']
    simp only [own, ownB, hl, hb, Option.bind_some, hc, cell_box hh, hq]
    exact e
  refine h.setGlob (vs := vs0) (ty := ty0) hl hne hb hh g3 (by simp) (by simpa using g2) (fun j' c' e => ?_) (fun j' k c' e x => ?_) (fun j' j'' k c' c'' e e' x x' => ?_)
  · rw [hget]
    rcases hcs j' c' e with ⟨rfl, rfl⟩ | ⟨q, e⟩
    · rw [if_pos rfl]; exact ⟨hc, hrep, htk⟩
    · rw [if_neg q]; exact g4 j' c' e
  · rw [hget] at x
    rcases hcs j' c' e with ⟨rfl, rfl⟩ | ⟨q, e⟩
    · rw [if_pos rfl] at x
      have := r.tok none k x
      exact ⟨this.1, this.2.1, this.2.2.1, fun l _ => this.2.2.2 l⟩
    · rw [if_neg q] at x
      have ho := oldown j' k c' e x
      have := h.rng _ k ho
      exact ⟨this.1, this.2.1, this.2.2, fun l hl e2 => hl j' (h.inj _ _ k e2 ho)⟩
  · rw [hget] at x x'
    rcases hcs j' c' e with ⟨rfl, rfl⟩ | ⟨q1, e1⟩ <;> rcases hcs j'' c'' e' with ⟨rfl, rfl⟩ | ⟨q2, e2⟩
    · rfl
    · rw [if_pos rfl] at x; rw [if_neg q2] at x'
      exact absurd (oldown j'' k c'' e2 x') ((r.tok none k x).2.2.2 _)
    · rw [if_neg q1] at x; rw [if_pos rfl] at x'
      exact absurd (oldown j' k c' e1 x) ((r.tok none k x').2.2.2 _)
    · rw [if_neg q1] at x; rw [if_neg q2] at x'
      have := h.inj _ _ k (oldown j' k c' e1 x) (oldown j'' k c'' e2 x'); injection this

theorem Sim.unit (h : Sim B T0 μ0 w0 N μ lx a w st) : Sim B T0 μ0 w0 1 μ (fun _ => none) ⟨#[.tuple #[]], []⟩ w ⟨[(0, .tup [])], [], st.s⟩ :=
  h.out (.mk' ⟨.tup _ _ rfl (fun j c hc => by simp at hc), fun j c hc => by simp at hc⟩ fun j => by cases j <;> simp [ownV, exBlk]) fun d i q => by cases q
theorem Sim.text (h : Sim B T0 μ0 w0 N μ lx a w st) (l : List UInt8) : Sim B T0 μ0 w0 1 μ (fun _ => none) ⟨#[.string ⟨l.toArray⟩], []⟩ w ⟨[(0, .str l)], [], st.s⟩ :=
  h.out (.mk' ⟨by have := Rep.str (B := B) (μ := μ) (w := w) ⟨l.toArray⟩; simpa using this, trivial⟩ fun j => by cases j <;> simp [ownV, exBlk]) fun d i q => by cases q
end
end Go.AI
end
