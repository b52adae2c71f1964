/- Part 3 of a proof: a Go function is evaluated on abstract values (texts AiDraw3 .. AiBox); no conditions beyond those of each theorem. -/
import Derived.Test.YtoofpdaplnjmdaaGreatDoorAi2
import Derived.Lib.UnsafeStr
set_option linter.all false
set_option linter.unusedVariables false
set_option linter.unusedSimpArgs false
set_option linter.unnecessarySimpa false
section
/- A region in an order drawn: the run. No program is in sight. -/
namespace Go.AI
set_option linter.unusedVariables false

theorem meetB_iff {a b : Option Nat} : meetB a b = true ↔ ∃ x, a = some x ∧ b = some x := by
  unfold meetB
  split
  · rename_i x y
    simp only [beq_iff_eq, Option.some.injEq]
    exact ⟨fun h => ⟨x, rfl, h.symm⟩, fun ⟨z, h1, h2⟩ => h1.trans h2.symm⟩
  · rename_i hn
    constructor
    · intro h; cases h
    · rintro ⟨x, rfl, rfl⟩; exact absurd rfl (hn x x rfl)

section
variable {P : Program} {hh : Hint} {C : Oracle}

def Step2 (P : Program) (hh : Hint) (C : Oracle) (ops : List Oper) (o : Oper) (st st' : St) : Prop :=
  (wantedA ops o.guard st = some true ∧ stepOp P hh C o st = some st') ∨ (wantedA ops o.guard st = some false ∧ st' = st.put o.dst (.tup []))

theorem stepD_local {ds : List Nat} {ops : List Oper} {o : Oper} {st st' st2 : St} (h : StepD P hh C ds ops o st st') (ha : Ahead hh o st st2) (hg : wantedA ops o.guard st2 = wantedA ops o.guard st) :
    ∃ st2', Step2 P hh C ops o st2 st2' ∧ Alike (wrT hh o) (boxW hh o) st' st2 st2' ∧ SRel hh o st st' st2 st2' := by
  rcases h with ⟨h1, h2, h3, h4, h5⟩ | ⟨h1, h2, _⟩
  · obtain ⟨st2', h6, h7, h8⟩ := step_local h2 ha h3
    exact ⟨st2', .inl ⟨by rw [hg, h1], h6⟩, h7, h8⟩
  · refine ⟨_, .inr ⟨by rw [hg, h1], rfl⟩, ⟨fun x => ?_, fun d => ?_⟩, .inl ⟨?_, ?_⟩⟩
    · subst h2
      cases hd : o.dst with
      | none =>
        simp only [St.put, wrT, hd, Option.toList_none, List.nil_append]
        split
        · rename_i hx
          have := ha.t _ (tk_mem (by simpa using hx))
          exact this
        · rfl
      | some d =>
        simp only [St.put, look_ins, wrT, hd, Option.toList_some, List.cons_append, List.nil_append, List.mem_cons]
        by_cases hx : x = d
        · simp [hx]
        · simp only [hx, if_false, false_or]
          split
          · rename_i hx
            exact ha.t _ (tk_mem (by simpa using hx))
          · rfl
    · subst h2
      have e1 : (st2.put o.dst (.tup [])).l = st2.l := by cases o.dst <;> rfl
      have e2 : (st.put o.dst (.tup [])).l = st.l := by cases o.dst <;> rfl
      rw [e1, e2]
      split
      · rename_i hb; exact ha.b d (.inr hb)
      · rfl
    · subst h2; cases o.dst <;> rfl
    · cases o.dst <;> rfl

/-- boxes without their rights -/
def dS (s : List (List AV)) : List (List AV) := s.map (·.map dem1)
theorem dem_dem1 (v : AV) : dem (dem1 v) = dem v := by cases v <;> rfl
theorem dem1_dem1 (v : AV) : dem1 (dem1 v) = dem1 v := by cases v <;> rfl
theorem dS_get {s s2 : List (List AV)} (e : dS s2 = dS s) (b : Nat) : (s2[b]?).map (·.map dem1) = (s[b]?).map (·.map dem1) := by
  have := congrArg (fun x : List (List AV) => x[b]?) e
  simpa [dS] using this
theorem map_dem_of {a b : List AV} (e : a.map dem1 = b.map dem1) : a.map dem = b.map dem := by
  have h : ∀ l : List AV, l.map dem = (l.map dem1).map dem := fun l => by
    rw [List.map_map]; exact List.map_congr_left fun x _ => (dem_dem1 x).symm
  rw [h a, h b, e]
theorem readCells_dS {t : TypeId} {a b : List AV} {i : Nat} (e : a.map dem1 = b.map dem1) : (readCells P t a i).map dem = (readCells P t b i).map dem := by
  have hl : a.length = b.length := by simpa using congrArg List.length e
  unfold readCells
  cases isAggA P t with
  | none => rfl
  | some g =>
    cases sizeA P t with
    | none => rfl
    | some n =>
      simp only [bnd]
      cases g with
      | true =>
        simp only [if_true, hl]
        split
        · have : ((a.drop i).take n).map dem = ((b.drop i).take n).map dem := by
            rw [List.map_take, List.map_drop, map_dem_of e, List.map_take, List.map_drop]
          rw [this]
        · rfl
      | false =>
        simp only [Bool.false_eq_true, if_false]
        have := congrArg (fun x : List AV => x[i]?) (map_dem_of e)
        simpa using this
theorem plS_load {o : Oper} (h : plS hh o = true) : ∃ t a, o.op = .load t a ∧ isMs hh o.dst = false ∧ allowS hh o = false ∧ seesS hh o = true := by
  unfold plS at h
  split at h
  · rename_i t a ho
    simp only [Bool.and_eq_true, Bool.not_eq_true'] at h
    refine ⟨t, a, ho, h.1.2, h.2, ?_⟩
    unfold seesS; rw [ho]; exact h.1.1
  · cases h
theorem opPure_dS {o : Oper} {st : St} {s2 : List (List AV)} {t : TypeId} {x : Operand} (ho : o.op = .load t x) (e : dS s2 = dS st.s) : opPure P hh o { st with s := s2 } = opPure P hh o st := by
  obtain ⟨d, op, T, pos, af, g⟩ := o
  simp only at ho
  subst ho
  have ha : aeval { st with s := s2 } x = aeval st x := by cases x <;> rfl
  simp only [opPure, ha]
  cases aeval st x with
  | none => rfl
  | some p =>
    simp only [bnd]
    cases p with
    | gp b off sh =>
      simp only [boxOf, bnd]
      have := dS_get e b
      cases h1 : s2[b]? with
      | none =>
        rw [h1] at this
        cases h2 : st.s[b]? with
        | none => rfl
        | some c => rw [h2] at this; cases this
      | some c2 =>
        rw [h1] at this
        cases h2 : st.s[b]? with
        | none => rw [h2] at this; cases this
        | some c =>
          rw [h2] at this
          simp only [Option.map_some, Option.some.injEq] at this
          simp only
          have hr := readCells_dS (P := P) (t := t) (i := off) this
          cases h3 : readCells P t c2 off with
          | none =>
            rw [h3] at hr
            cases h4 : readCells P t c off with
            | none => rfl
            | some v => rw [h4] at hr; cases hr
          | some v2 =>
            rw [h3] at hr
            cases h4 : readCells P t c off with
            | none => rw [h4] at hr; cases hr
            | some v =>
              rw [h4] at hr
              simp only [Option.map_some, Option.some.injEq] at hr
              simp only [hr]
    | _ => rfl
theorem stepOp_dS {o : Oper} {st st' : St} {s2 : List (List AV)} (hp : plS hh o = true) (e : dS s2 = dS st.s) (h : stepOp P hh C o st = some st') : stepOp P hh C o { st with s := s2 } = some { st' with s := s2 } ∧ st'.s = st.s := by
  obtain ⟨t, a, ho, hm, _, _⟩ := plS_load hp
  have key : ∀ st : St, stepOp P hh C o st = bnd (opPure P hh o st) fun v => some (st.put o.dst v) := by
    intro st
    unfold stepOp
    rw [ho]
    simp only [hm, Bool.false_eq_true, if_false, opVal, ho]
    cases opPure P hh o st <;> rfl
  rw [key] at h ⊢
  rw [opPure_dS ho e]
  obtain ⟨v, hv, h⟩ := bnd_eq h
  injection h with h
  rw [hv]
  subst h
  constructor
  · simp only [bnd]; cases o.dst <;> rfl
  · cases o.dst <;> rfl
/-- as stepD_local; a plain read may stand before or behind one that takes a right along -/
theorem stepD_local2 {ds : List Nat} {ops : List Oper} {o : Oper} {st st' st2 : St} (h : StepD P hh C ds ops o st st') (ht : ∀ x ∈ o.op.operands, aeval st2 x = aeval st x)
    (hs : seesS hh o = true → plS hh o = false → st2.s = st.s) (hs2 : plS hh o = true → dS st2.s = dS st.s) (hb : ∀ d, boxR hh o = some d ∨ boxW hh o = some d → look st2.l d = look st.l d)
    (hn : ∀ d, isAlloc o = true → o.dst = some d → noLp d st2.t = true) (hg : wantedA ops o.guard st2 = wantedA ops o.guard st) :
    ∃ st2', Step2 P hh C ops o st2 st2' ∧ Alike (wrT hh o) (boxW hh o) st' st2 st2' ∧ ((st'.s = st.s ∧ st2'.s = st2.s) ∨ (seesS hh o = true ∧ plS hh o = false ∧ st2'.s = st'.s)) := by
  cases hp : plS hh o with
  | false =>
    obtain ⟨s, h1, h2, h3⟩ := stepD_local h ⟨ht, fun q => hs q hp, hb, hn⟩ hg
    refine ⟨s, h1, h2, ?_⟩
    rcases h3 with h3 | ⟨h3, h4⟩
    · exact .inl h3
    · exact .inr ⟨h3, rfl, h4⟩
  | true =>
    have ha : Ahead hh o st { st2 with s := st.s } := ⟨fun x hx => by rw [← ht x hx]; cases x <;> rfl, fun _ => rfl, hb, hn⟩
    obtain ⟨s, h1, h2, h3⟩ := stepD_local h ha (by rw [← hg]; rfl)
    refine ⟨{ s with s := st2.s }, ?_, ⟨h2.t, h2.l⟩, .inl ⟨?_, rfl⟩⟩
    · rcases h1 with ⟨g1, g2⟩ | ⟨g1, g2⟩
      · exact .inl ⟨g1, (stepOp_dS (st := { st2 with s := st.s }) (st' := s) (s2 := st2.s) hp (hs2 hp) g2).1⟩
      · refine .inr ⟨g1, ?_⟩
        rw [g2]; cases o.dst <;> rfl
    · rcases h with ⟨_, _, q, _, _⟩ | ⟨_, q, _⟩
      · exact (stepOp_dS (s2 := st.s) hp rfl q).2
      · rw [q]; cases o.dst <;> rfl
theorem dS_set {s : List (List AV)} {b off : Nat} {cs : List AV} {v : AV} (h : s[b]? = some cs) (hv : cs[off]? = some v) : dS (s.set b (cs.set off (dem1 v))) = dS s := by
  have h1 : (cs.set off (dem1 v)).map dem1 = cs.map dem1 := by
    apply List.ext_getElem?
    intro j
    rw [List.getElem?_map, List.getElem?_map, List.getElem?_set]
    split
    · rename_i hj
      subst hj
      have hlt := (List.getElem?_eq_some_iff.1 hv).1
      rw [if_pos hlt, hv]; simp [dem1_dem1]
    · rfl
  unfold dS
  apply List.ext_getElem?
  intro j
  rw [List.getElem?_map, List.getElem?_map, List.getElem?_set]
  split
  · rename_i hj
    subst hj
    have hlt := (List.getElem?_eq_some_iff.1 h).1
    rw [if_pos hlt, h]; simp [h1]
  · rfl
theorem stepD_mv {ds : List Nat} {ops : List Oper} {o : Oper} {st st' : St} (h : StepD P hh C ds ops o st st') (hm : mvS hh o = true) : dS st'.s = dS st.s := by
  unfold mvS at hm
  split at hm
  · rename_i t a ho
    rcases h with ⟨_, _, q, _, _⟩ | ⟨_, rfl, _⟩
    · unfold stepOp at q
      rw [ho] at q
      simp only at q
      obtain ⟨⟨v, s⟩, hv, q⟩ := bnd_eq q
      injection q with q
      have e : st'.s = s.s := by rw [← q]; cases o.dst <;> rfl
      rw [e]
      split at hv
      · simp only [msOp, ho, msLoad] at hv
        split at hv
        · cases hv
        · obtain ⟨p, _, hv⟩ := bnd_eq hv
          split at hv
          · obtain ⟨g, _, hv⟩ := bnd_eq hv
            obtain ⟨cs, hcs, hv⟩ := bnd_eq hv
            obtain ⟨u, hu, hv⟩ := bnd_eq hv
            split at hv
            · cases hv
            · simp only [Option.some.injEq, Prod.mk.injEq] at hv
              obtain ⟨_, rfl⟩ := hv
              exact dS_set hcs hu
          · cases hv
      · simp only [opVal, ho] at hv
        obtain ⟨u, _, hv⟩ := bnd_eq hv
        simp only [Option.some.injEq, Prod.mk.injEq] at hv
        obtain ⟨_, rfl⟩ := hv
        rfl
    · cases o.dst <;> rfl
  · cases hm
theorem mvM_spec {b : Bool} {o : Oper} {x : Nat} (h : mvM hh b o = some x) : o.op = .move (.tmp x) ∧ isMs hh o.dst = false ∧ steals hh o.dst = b ∧ o.guard = none ∧ o.dst ≠ some x := by
  unfold mvM at h
  split at h
  · rename_i y hy
    split at h
    · rename_i hc
      injection h with h; subst h
      simp only [Bool.and_eq_true, Bool.not_eq_true', beq_iff_eq, bne_iff_ne, ne_eq, Option.isNone_iff_eq_none] at hc
      exact ⟨hy, hc.1.1.1, hc.1.1.2, hc.1.2, hc.2⟩
    · cases h
  · cases h
theorem stepD_move {b : Bool} {ds : List Nat} {ops : List Oper} {o : Oper} {st st' : St} {x : Nat} (h : StepD P hh C ds ops o st st') (hm : mvM hh b o = some x) :
    ∃ v, look st.t x = some v ∧ st' = ({ st with t := if b then ins st.t x (dem v) else st.t } : St).put o.dst (if b then v else dem v) := by
  obtain ⟨h1, h2, h3, h4, h5⟩ := mvM_spec hm
  rcases h with ⟨_, _, q, _, _⟩ | ⟨q, _, _⟩
  · unfold stepOp at q
    simp only [h1, h2, Bool.false_eq_true, if_false, opVal, lend, h3] at q
    obtain ⟨⟨u, s⟩, hu, q⟩ := bnd_eq q
    injection q with q; subst q
    cases b with
    | true =>
      simp only [if_true, takeOp] at hu ⊢
      obtain ⟨v, hv, hu⟩ := bnd_eq hu
      simp only [Option.some.injEq, Prod.mk.injEq] at hu
      obtain ⟨rfl, rfl⟩ := hu
      exact ⟨v, hv, rfl⟩
    | false =>
      simp only [Bool.false_eq_true, if_false, aeval] at hu ⊢
      obtain ⟨v, hv, hu⟩ := bnd_eq hu
      simp only [Option.some.injEq, Prod.mk.injEq] at hu
      obtain ⟨rfl, rfl⟩ := hu
      exact ⟨v, hv, rfl⟩
  · rw [h4] at q; cases q
theorem dem_dem' (v : AV) : dem (dem v) = dem v := by
  cases v with
  | tup xs => simp only [dem, List.map_map]; congr 1; apply List.map_congr_left; intro y _; exact dem1_dem1 y
  | _ => rfl
theorem stepD_dm {ds : List Nat} {ops : List Oper} {o : Oper} {st st' : St} {x : Nat} (h : StepD P hh C ds ops o st st') (hm : mvM hh true o = some x) : (look st'.t x).map dem = (look st.t x).map dem := by
  obtain ⟨v, hv, rfl⟩ := stepD_move h hm
  have h5 := (mvM_spec hm).2.2.2.2
  cases hd : o.dst with
  | none => simp [St.put, look_ins, hv, dem_dem']
  | some d =>
    have : x ≠ d := fun e => h5 (by rw [hd, e])
    simp [St.put, look_ins, this, hv, dem_dem']
theorem stepD_pl {ds : List Nat} {ops : List Oper} {o : Oper} {st st' st2 : St} {x : Nat} (h : StepD P hh C ds ops o st st') (hm : mvM hh false o = some x) (hx : (look st2.t x).map dem = (look st.t x).map dem) :
    ∃ st2', Step2 P hh C ops o st2 st2' ∧ Alike (wrT hh o) (boxW hh o) st' st2 st2' ∧ ((st'.s = st.s ∧ st2'.s = st2.s) ∨ (seesS hh o = true ∧ plS hh o = false ∧ st2'.s = st'.s)) := by
  obtain ⟨v, hv, rfl⟩ := stepD_move h hm
  obtain ⟨h1, h2, h3, h4, h5⟩ := mvM_spec hm
  rw [hv] at hx
  cases hu : look st2.t x with
  | none => rw [hu] at hx; cases hx
  | some u =>
    rw [hu] at hx
    simp only [Option.map_some, Option.some.injEq] at hx
    have hw : wrT hh o = o.dst.toList := by
      unfold wrT tkT
      simp only [h1, h3, Bool.false_eq_true, if_false, Option.toList_none, List.append_nil]
    have hb : boxW hh o = none := by unfold boxW; simp only [h1]
    refine ⟨st2.put o.dst (dem v), .inl ⟨by rw [h4]; rfl, ?_⟩, ⟨fun y => ?_, fun d => ?_⟩, .inl ⟨?_, ?_⟩⟩
    · unfold stepOp
      simp only [h1, h2, Bool.false_eq_true, if_false, opVal, lend, h3, aeval, hu, bnd, hx]
    · rw [hw]
      cases hd : o.dst with
      | none => simp [St.put]
      | some d =>
        simp only [St.put, look_ins, Option.toList_some, List.mem_singleton, Bool.false_eq_true, if_false]
        split <;> rfl
    · rw [hb]; cases o.dst <;> simp [St.put]
    · cases o.dst <;> rfl
    · cases o.dst <;> rfl
theorem last_map {α β : Type} (g : α → β) {S W : Nat → Bool} {v : Nat → α} : ∀ n, g (last S W v n) = last S W (fun k => g (v k)) n := by
  intro n
  induction n with
  | zero => rfl
  | succ n ih => simp only [last]; split; rfl; exact ih
/-- operations that change nothing may be left out -/
theorem last_less {α : Type} {S A W : Nat → Bool} {v : Nat → α} (hW : ∀ k, W k = true → A k = true) : ∀ n, (∀ k, k < n → W k = false → v (k + 1) = v k) → (∀ j k, j < k → k < n → A j = true → A k = true → S k = true → S j = true) → last S A v n = last S W v n := by
  intro n
  induction n with
  | zero => intro _ _; rfl
  | succ n ih =>
    intro h1 h2
    have ihn := ih (fun k hk => h1 k (by omega)) (fun j k a b => h2 j k a (by omega))
    simp only [last]
    by_cases hA : (S n && A n) = true
    · rw [if_pos hA]
      simp only [Bool.and_eq_true] at hA
      cases hw : W n with
      | true => simp [hA.1]
      | false =>
        simp only [Bool.and_false, Bool.false_eq_true, if_false]
        rw [h1 n (by omega) hw]
        exact (last_eq (i := n) (fun k hk => h1 k (by omega)) n (Nat.le_refl _) (fun k hk hwk => h2 k n hk (by omega) (hW k hwk) hA.2 hA.1) (fun k a b => by omega)).symm
    · rw [if_neg hA, ihn]
      split
      · rename_i hq
        simp only [Bool.and_eq_true] at hA hq
        exact absurd ⟨hq.1, hW n hq.2⟩ hA
      · rfl

theorem stepD_s {ds : List Nat} {ops : List Oper} {o : Oper} {st st' : St} (h : StepD P hh C ds ops o st st') (hn : allowS hh o = false) : st'.s = st.s := by
  rcases h with ⟨h1, h2, h3, h4, h5⟩ | ⟨h1, rfl, hk⟩
  · rcases h4 with h4 | h4
    · rw [hn] at h4; cases h4
    · exact h4
  · cases o.dst <;> rfl
theorem stepD_nodup {ds : List Nat} {ops : List Oper} {o : Oper} {st st' : St} (h : StepD P hh C ds ops o st st') (hn : (st.t.map (·.1)).Nodup) : (st'.t.map (·.1)).Nodup := by
  rcases h with ⟨h1, h2, h3, h4, h5⟩ | ⟨h1, rfl, hk⟩
  · exact (nodup_step hn h3).1
  · exact nodup_put hn
theorem stepD_frame {ds : List Nat} {ops : List Oper} {o : Oper} {st st' : St} (h : StepD P hh C ds ops o st st') :
    (∀ x, x ∉ wrT hh o → look st'.t x = look st.t x) ∧ (∀ d, boxW hh o ≠ some d → look st'.l d = look st.l d) := by
  rcases h with ⟨h1, h2, h3, h4, h5⟩ | ⟨h1, rfl, hk⟩
  · have ha : Ahead hh o st st := ⟨fun _ _ => rfl, fun _ => rfl, fun _ _ => rfl, fun d ha hd => by
      unfold preD at h2
      unfold isAlloc at ha
      split at ha
      · rename_i heq; rw [heq] at h2; simp only [hd] at h2; exact h2
      · rename_i heq; rw [heq] at h2; simp only [hd] at h2; exact h2
      · cases ha⟩
    obtain ⟨st2, h6, h7, _⟩ := step_local h2 ha h3
    rw [h3] at h6
    injection h6 with h6; subst h6
    exact ⟨fun x hx => by have := h7.t x; rw [if_neg hx] at this; exact this, fun d hd => by have := h7.l d; rw [if_neg hd] at this; exact this⟩
  · refine ⟨fun x hx => ?_, fun d hd => ?_⟩
    · cases hd : o.dst with
      | none => rfl
      | some d =>
        simp only [St.put, look_ins]
        rw [if_neg]
        intro e; subst e; exact hx (by simp [wrT, hd])
    · cases o.dst <;> rfl
/-- no pointer to a variable of the region's own is written, but by what makes it -/
theorem stepD_okLp {ops : List Oper} {i : Nat} {o : Oper} {st st' : St} (h : StepD P hh C (allocDs ops) ops o st st') (hn : (st.t.map (·.1)).Nodup) (ho : ops[i]? = some o) {x d : Nat} (hx : x ∈ wrT hh o) (hd : mem (allocDs ops) d = true)
    {v : AV} (hv : look st'.t x = some v) (hl : isLp d v = true) : isAlloc o = true ∧ o.dst = some d := by
  rcases h with ⟨h1, h2, h3, h4, h5⟩ | ⟨h1, rfl, hk⟩
  · have bad : okLp (allocDs ops) (look st'.t x) = true → False := by
      intro hk
      rw [hv] at hk
      cases v with
      | lp d' i' =>
        simp only [isLp, beq_iff_eq] at hl
        subst hl
        simp only [okLp, hd] at hk; cases hk
      | _ => cases hl
    by_cases ha : isAlloc o = true
    · refine ⟨ha, ?_⟩
      obtain ⟨n, h6, u, h7, h8⟩ := (nodup_step hn h3).2 ha
      have hpd : okAll (allocDs ops) st'.t (tkT hh o).toList = true := by
        unfold postD at h5
        unfold isAlloc at ha
        split at ha
        · rename_i heq; rw [heq] at h5; exact h5
        · rename_i heq; rw [heq] at h5; exact h5
        · cases ha
      simp only [wrT, h6, Option.toList_some, List.cons_append, List.nil_append, List.mem_cons] at hx
      rcases hx with rfl | hx
      · rw [h7] at hv; injection hv with hv; subst hv
        rw [h8 d hl]; exact h6
      · exact (bad (okAll_mem hpd hx)).elim
    · have hpd : okAll (allocDs ops) st'.t (wrT hh o) = true := by
        unfold postD at h5
        unfold isAlloc at ha
        split at h5
        · rename_i heq; rw [heq] at ha; exact absurd rfl ha
        · rename_i heq; rw [heq] at ha; exact absurd rfl ha
        · exact h5
      exact (bad (okAll_mem hpd hx)).elim
  · exfalso
    have old : ∀ y, y ∈ (tkT hh o).toList → look st.t y = some v → False := fun y hy e => by
      have := okAll_mem hk hy
      rw [e] at this
      cases v with
      | lp d' i' =>
        simp only [isLp, beq_iff_eq] at hl
        subst hl
        simp only [okLp, hd] at this; cases this
      | _ => cases hl
    cases hd' : o.dst with
    | none =>
      rw [hd'] at hv
      simp only [wrT, hd', Option.toList_none, List.nil_append] at hx
      exact old x hx hv
    | some d' =>
      rw [hd'] at hv
      simp only [St.put, look_ins] at hv
      simp only [wrT, hd', Option.toList_some, List.cons_append, List.nil_append, List.mem_cons] at hx
      split at hv
      · injection hv with hv; subst hv; cases hl
      · rename_i hne
        exact old x (hx.resolve_left hne) hv
end
end Go.AI
end
section
/- A region in an order drawn: soundness. No program is in sight. -/
namespace Go.AI
open Go.RowKit
set_option linter.unusedVariables false

theorem drawOk_spec {hh : Hint} {ops : Array Oper} (h : drawOk hh ops = true) {j : Nat} {p : Oper} (hj : ops[j]? = some p) :
    (∀ e ∈ p.after, Region.binds .any e = true → e.on < j) ∧ ∀ i o, i < j → ops[i]? = some o → (conf hh ops o p = true → befT ops.toList i j = true) ∧ ¬ (isAlloc o = true ∧ isAlloc p = true ∧ o.dst = p.dst) := by
  have hlt : j < ops.size := (Array.getElem?_eq_some_iff.1 hj).1
  have := List.all_eq_true.1 h j (List.mem_range.2 hlt)
  simp only [hj, Bool.and_eq_true] at this
  obtain ⟨h1, h2⟩ := this
  refine ⟨fun e he hb => ?_, fun i o hi ho => ?_⟩
  · have := List.all_eq_true.1 h1 e (by simpa using he)
    simpa [hb] using this
  · have := List.all_eq_true.1 h2 i (List.mem_range.2 hi)
    simp only [ho, Bool.and_eq_true, Bool.or_eq_true, Bool.not_eq_true'] at this
    refine ⟨fun hc => ?_, fun ⟨a1, a2, a3⟩ => ?_⟩
    · rcases this.1 with h | h
      · rw [hc] at h; cases h
      · exact h
    · have := this.2
      simp [a1, a2, a3] at this

theorem bef_spec {ops : Array Oper} {i j : Nat} {p : Oper} (hj : ops[j]? = some p) (h : bef ops.toList i j = true) : ∃ e ∈ p.after, Region.binds .any e = true ∧ e.on = i := by
  unfold bef at h
  have : ops.toList[j]? = some p := by simpa using hj
  rw [this] at h
  simp only at h
  obtain ⟨e, he, h⟩ := List.any_eq_true.1 h
  simp only [Bool.and_eq_true, beq_iff_eq] at h
  exact ⟨e, by simpa using he, h.1, h.2⟩
/-- what is closed under edges has what lies behind -/
theorem befs_mem {ops : Array Oper} {S : Nat → Prop} (hS : ∀ j o, ops[j]? = some o → S j → ∀ e ∈ o.after, Region.binds .any e = true → S e.on) (i : Nat) : ∀ n j, befs ops.toList n i j = true → (∀ o, ops[j]? = some o → ∀ e ∈ o.after, Region.binds .any e = true → S e.on) → S i := by
  intro n
  induction n with
  | zero => intro j h _; cases h
  | succ n ih =>
    intro j h hp
    simp only [befs] at h
    split at h
    · rename_i o ho
      have ho : ops[j]? = some o := by simpa using ho
      obtain ⟨e, he, h⟩ := List.any_eq_true.1 h
      simp only [Bool.and_eq_true, Bool.or_eq_true, beq_iff_eq] at h
      obtain ⟨h1, h2⟩ := h
      have hSe := hp o ho e (by simpa using he) h1
      rcases h2 with h2 | h2
      · rw [← h2]; exact hSe
      · exact ih e.on h2 fun o' ho' => hS e.on o' ho' hSe
    · cases h
theorem befT_mem {ops : Array Oper} {S : Nat → Prop} (hS : ∀ j o, ops[j]? = some o → S j → ∀ e ∈ o.after, Region.binds .any e = true → S e.on) {i j : Nat} {p : Oper} (hj : ops[j]? = some p) (h : befT ops.toList i j = true) (hp : ∀ e ∈ p.after, Region.binds .any e = true → S e.on) : S i := by
  unfold befT at h
  rw [Bool.or_eq_true] at h
  rcases h with h | h
  · obtain ⟨e, he, hb, hon⟩ := bef_spec hj h
    rw [← hon]; exact hp e he hb
  · exact befs_mem hS i 5 j h fun o ho => by rw [hj] at ho; injection ho with ho; subst ho; exact hp

def cnt (S : Nat → Bool) : Nat → Nat
  | 0 => 0
  | k + 1 => cnt S k + if S k then 0 else 1
theorem cnt_add {S S' : Nat → Bool} {i : Nat} (hS : ∀ k, S' k = (S k || decide (k = i))) (hi : S i = false) : ∀ n, cnt S n = cnt S' n + if i < n then 1 else 0 := by
  intro n
  induction n with
  | zero => rfl
  | succ n ih =>
    simp only [cnt, hS n, ih]
    by_cases hn : n = i
    · subst hn; simp [hi]
    · have h1 : (i < n + 1) ↔ i < n := by omega
      simp [hn, h1]; omega
theorem cnt_zero {S : Nat → Bool} : ∀ n, cnt S n = 0 → ∀ k, k < n → S k = true := by
  intro n
  induction n with
  | zero => intro _ k hk; omega
  | succ n ih =>
    intro h k hk
    simp only [cnt] at h
    have h1 : cnt S n = 0 := by omega
    have h2 : S n = true := by
      cases hs : S n with
      | true => rfl
      | false => simp [hs] at h
    by_cases hkn : k = n
    · subst hkn; exact h2
    · exact ih h1 k (by omega)

section
variable {P : Program} {hh : Hint} {C : Oracle} {B : Nat} {W0 : World}

theorem opsOk_mem {N : Nat} {l : List Oper} (h : opsOk N l = true) {i : Nat} {o : Oper} (ho : l[i]? = some o) : ∀ n, o.dst = some n → n < N := by
  induction l generalizing i with
  | nil => simp at ho
  | cons p r ih =>
    simp only [opsOk, Bool.and_eq_true] at h
    cases i with
    | zero => simp at ho; subst ho; intro n hn; have := h.1; rw [hn] at this; simpa using this
    | succ i => simp at ho; exact ih h.2 ho

theorem wpAny_draw {T0 : Nat → Prop} {μ0 : Gh} {w0 : World} {N : Nat} {ops : Array Oper} {f : Nat → St} {Q : Exit → Act → World → Prop} (hok : drawOk hh ops = true) (hN : opsOk N ops.toList = true)
    (hW : Below B W0 w0) (hC : OracleOk P B W0 C)
    (hf : ∀ (i : Nat) (o : Oper), ops.toList[i]? = some o → StepD P hh C (allocDs ops.toList) ops.toList o (f i) (f (i + 1)))
    (hn0 : ((f 0).t.map (·.1)).Nodup) (h0 : ∀ i v, look (f 0).t i = some v → ∀ d ∈ allocDs ops.toList, isLp d v = false)
    (hQ : ∀ μ' lx' a' w', Sim B T0 μ0 w0 N μ' lx' a' w' (f ops.size) → Q .normal a' w') :
    ∀ (fuel : Nat) (listed : Array Bool) (a : Act) (w : World) (μ : Gh) (lx : Nat → Option Nat) (σ : St), listed.size = ops.size → cnt (fun i => listed.getD i false) ops.size = fuel →
      (∀ j o, ops[j]? = some o → listed.getD j false = true → ∀ e ∈ o.after, Region.binds .any e = true → listed.getD e.on false = true) →
      Sim B T0 μ0 w0 N μ lx a w σ →
      (∀ x, look σ.t x = last (fun i => listed.getD i false) (fun k => match ops[k]? with | some o => (wrT hh o).contains x | none => false) (fun k => look (f k).t x) ops.size) →
      (∀ d, look σ.l d = last (fun i => listed.getD i false) (fun k => match ops[k]? with | some o => boxW hh o == some d | none => false) (fun k => look (f k).l d) ops.size) →
      σ.s = last (fun i => listed.getD i false) (fun k => match ops[k]? with | some o => allowS hh o | none => false) (fun k => (f k).s) ops.size → wpAny P .any ops Q fuel listed a w := by
  have hfa : ∀ (i : Nat) (o : Oper), ops[i]? = some o → StepD P hh C (allocDs ops.toList) ops.toList o (f i) (f (i + 1)) := fun i o h => hf i o (by simpa using h)
  have hnd : ∀ i, i ≤ ops.size → ((f i).t.map (·.1)).Nodup := by
    intro i
    induction i with
    | zero => intro _; exact hn0
    | succ i ih =>
      intro hi
      have hs := hfa i ops[i] (Array.getElem?_eq_getElem (by omega))
      exact stepD_nodup hs (ih (by omega))
  have frT : ∀ x k, k < ops.size → (match ops[k]? with | some o => (wrT hh o).contains x | none => false) = false → look (f (k + 1)).t x = look (f k).t x := by
    intro x k hk hw
    have ho : ops[k]? = some ops[k] := by simp [hk]
    rw [ho] at hw
    exact (stepD_frame (hfa k _ ho)).1 x (by simpa using hw)
  have frL : ∀ d k, k < ops.size → (match ops[k]? with | some o => boxW hh o == some d | none => false) = false → look (f (k + 1)).l d = look (f k).l d := by
    intro d k hk hw
    have ho : ops[k]? = some ops[k] := by simp [hk]
    rw [ho] at hw
    exact (stepD_frame (hfa k _ ho)).2 d (by simpa using hw)
  have frS : ∀ k, k < ops.size → (match ops[k]? with | some o => allowS hh o | none => false) = false → (f (k + 1)).s = (f k).s := by
    intro k hk hw
    have ho : ops[k]? = some ops[k] := by simp [hk]
    rw [ho] at hw
    exact stepD_s (hfa k _ ho) hw
  -- all are listed
  have done : ∀ (listed : Array Bool) (a : Act) (w : World) (μ : Gh) (lx : Nat → Option Nat) (σ : St), (∀ k, k < ops.size → listed.getD k false = true) → Sim B T0 μ0 w0 N μ lx a w σ →
      (∀ x, look σ.t x = last (fun i => listed.getD i false) (fun k => match ops[k]? with | some o => (wrT hh o).contains x | none => false) (fun k => look (f k).t x) ops.size) →
      (∀ d, look σ.l d = last (fun i => listed.getD i false) (fun k => match ops[k]? with | some o => boxW hh o == some d | none => false) (fun k => look (f k).l d) ops.size) →
      σ.s = last (fun i => listed.getD i false) (fun k => match ops[k]? with | some o => allowS hh o | none => false) (fun k => (f k).s) ops.size → Q .normal a w := by
    intro listed a w μ lx σ hall hs ht hl hss
    have hss' : σ.s = (f ops.size).s := by
      rw [hss]; exact last_eq (i := ops.size) (fun k hk => frS k hk) _ (Nat.le_refl _) (fun k hk _ => hall k hk) (fun k h1 h2 => by omega)
    refine hQ μ lx a w (hs.le ⟨fun i v e => ⟨v, ?_, .inl rfl⟩, fun d cs e => ⟨cs, ?_, CLe.refl _⟩, fun b cs e => ⟨cs, ?_, CLe.refl _⟩, ?_, fun _ => hnd _ (Nat.le_refl _)⟩)
    · rw [ht, last_eq (i := ops.size) (fun k hk => frT i k hk) _ (Nat.le_refl _) (fun k hk _ => hall k hk) (fun k h1 h2 => by omega)]; exact e
    · rw [hl, last_eq (i := ops.size) (fun k hk => frL d k hk) _ (Nat.le_refl _) (fun k hk _ => hall k hk) (fun k h1 h2 => by omega)]; exact e
    · rw [hss']; exact e
    · rw [hss']; exact Nat.le_refl _
  have noready : ∀ (listed : Array Bool), listed.size = ops.size → Region.ready .any ops listed = [] → ∀ k, k < ops.size → listed.getD k false = true := by
    intro listed hsz hr k
    induction k using Nat.strongRecOn with
    | _ k ih =>
      intro hk
      cases hc : listed.getD k false with
      | true => rfl
      | false =>
        have hpk : ops[k]? = some ops[k] := Array.getElem?_eq_getElem hk
        have : k ∈ Region.ready .any ops listed := mem_ready.2 ⟨by
          rw [Array.getD_eq_getD_getElem?] at hc ⊢
          have : k < listed.size := by omega
          simp [this] at hc ⊢; exact hc, ops[k], hpk, fun e he hb => ih e.on ((drawOk_spec hok hpk).1 e he hb) (by
            have := (drawOk_spec hok hpk).1 e he hb
            omega)⟩
        rw [hr] at this; cases this
  intro fuel
  induction fuel with
  | zero =>
    intro listed a w μ lx σ hsz hcnt hcl hs ht hl hss
    have hall := cnt_zero _ hcnt
    refine ⟨?_, done listed a w μ lx σ hall hs ht hl hss⟩
    cases hr : Region.ready .any ops listed with
    | nil => rfl
    | cons i r =>
      have hi : i ∈ Region.ready .any ops listed := by rw [hr]; simp
      obtain ⟨h1, o, h2, _⟩ := mem_ready.1 hi
      have hlt : i < ops.size := (Array.getElem?_eq_some_iff.1 h2).1
      have := hall i hlt
      rw [Array.getD_eq_getD_getElem?] at this h1
      have hl' : i < listed.size := by omega
      simp [hl'] at this h1
      rw [h1] at this; cases this
  | succ fuel ih =>
    intro listed a w μ lx σ hsz hcnt hcl hs ht hl hss
    refine ⟨fun hr => done listed a w μ lx σ (noready listed hsz hr) hs ht hl hss, fun i hi => ?_⟩
    obtain ⟨h1, o, ho, hpre⟩ := mem_ready.1 hi
    have hlt : i < ops.size := (Array.getElem?_eq_some_iff.1 ho).1
    have hlt' : i < listed.size := by omega
    have hSi : listed.getD i false = false := by
      rw [Array.getD_eq_getD_getElem?] at h1 ⊢
      simp [hlt'] at h1 ⊢; exact h1
    have hD := hfa i o ho
    -- what meets i and comes earlier is listed; what comes later is not
    have early : ∀ k p, k < i → ops[k]? = some p → conf hh ops p o = true → listed.getD k false = true := by
      intro k p hk hp hc
      exact befT_mem (S := fun k => listed.getD k false = true) hcl ho (((drawOk_spec hok ho).2 k p hk hp).1 hc) hpre
    have late : ∀ k p, i < k → ops[k]? = some p → conf hh ops o p = true → listed.getD k false = false := by
      intro k p hk hp hc
      cases hq : listed.getD k false with
      | false => rfl
      | true =>
        have := befT_mem (S := fun k => listed.getD k false = true) hcl hp (((drawOk_spec hok hp).2 i o hk ho).1 hc) (hcl k p hp hq)
        rw [hSi] at this; cases this
    have agT : ∀ x, x ∈ o.looksAt ops → mvM hh false o ≠ some x → look σ.t x = look (f i).t x := by
      intro x hx hne
      have hne' : (mvM hh false o == some x) = false := by simpa using hne
      rw [ht]
      refine last_eq (fun k hk => frT x k (by omega)) _ (Nat.le_of_lt hlt) (fun k hk hw => ?_) (fun k h1 h2 hw => ?_)
      · have hp : ops[k]? = some ops[k] := Array.getElem?_eq_getElem (by omega)
        rw [hp] at hw
        refine early k _ hk hp ?_
        unfold conf
        have : (wrT hh ops[k]).any (fun x => ((o.looksAt ops).contains x && !(mvM hh false o == some x && mvM hh true ops[k] == some x)) || (wrT hh o).contains x) = true := List.any_eq_true.2 ⟨x, by simpa using hw, by simp [hx, hne']⟩
        simp only [this, Bool.true_or, Bool.or_true]
      · by_cases hki : k = i
        · subst hki; exact hSi
        · have hp : ops[k]? = some ops[k] := Array.getElem?_eq_getElem (by omega)
          rw [hp] at hw
          refine late k _ (by omega) hp ?_
          unfold conf
          have : (wrT hh ops[k]).any (fun x => (o.looksAt ops).contains x && !(mvM hh false o == some x && mvM hh true ops[k] == some x)) = true := List.any_eq_true.2 ⟨x, by simpa using hw, by simp [hx, hne']⟩
          simp only [this, Bool.true_or, Bool.or_true]
    have agT2 : ∀ x, mvM hh false o = some x → (look σ.t x).map dem = (look (f i).t x).map dem := by
      intro x hmv
      have hx : x ∈ o.looksAt ops := by
        obtain ⟨h1, _⟩ := mvM_spec hmv
        exact List.mem_append_left _ (List.mem_filterMap.2 ⟨.tmp x, by simp [h1, Op.operands], rfl⟩)
      have frW : ∀ k, k < ops.size → (match ops[k]? with | some o => (wrT hh o).contains x && !(mvM hh true o == some x) | none => false) = false → (look (f (k + 1)).t x).map dem = (look (f k).t x).map dem := by
        intro k hk hw
        have hp : ops[k]? = some ops[k] := by simp [hk]
        rw [hp] at hw
        cases ha : (wrT hh ops[k]).contains x with
        | false => rw [(stepD_frame (hfa k _ hp)).1 x (by simpa using ha)]
        | true =>
          simp only [ha, Bool.true_and, Bool.not_eq_false', beq_iff_eq] at hw
          exact stepD_dm (hfa k _ hp) hw
      rw [ht, last_map (fun v : Option AV => v.map dem)]
      rw [last_less (W := fun k => match ops[k]? with | some o => (wrT hh o).contains x && !(mvM hh true o == some x) | none => false)]
      · refine last_eq (v := fun k => (look (f k).t x).map dem) (fun k hk => frW k (by omega)) _ (Nat.le_of_lt hlt) (fun k hk hw => ?_) (fun k h1 h2 hw => ?_)
        · have hp : ops[k]? = some ops[k] := Array.getElem?_eq_getElem (by omega)
          rw [hp] at hw
          simp only [Bool.and_eq_true, Bool.not_eq_true'] at hw
          refine early k _ hk hp ?_
          unfold conf
          have : (wrT hh ops[k]).any (fun x => ((o.looksAt ops).contains x && !(mvM hh false o == some x && mvM hh true ops[k] == some x)) || (wrT hh o).contains x) = true := List.any_eq_true.2 ⟨x, by simpa using hw.1, by rw [hw.2]; simp [hx]⟩
          simp only [this, Bool.true_or, Bool.or_true]
        · by_cases hki : k = i
          · subst hki; exact hSi
          · have hp : ops[k]? = some ops[k] := Array.getElem?_eq_getElem (by omega)
            rw [hp] at hw
            simp only [Bool.and_eq_true, Bool.not_eq_true'] at hw
            refine late k _ (by omega) hp ?_
            unfold conf
            have : (wrT hh ops[k]).any (fun x => (o.looksAt ops).contains x && !(mvM hh false o == some x && mvM hh true ops[k] == some x)) = true := List.any_eq_true.2 ⟨x, by simpa using hw.1, by rw [hw.2]; simp [hx]⟩
            simp only [this, Bool.true_or, Bool.or_true]
      · intro k hw
        cases hp : ops[k]? with
        | none => rw [hp] at hw; cases hw
        | some p => rw [hp] at hw; simp only [Bool.and_eq_true] at hw ⊢; exact hw.1
      · exact fun k hk => frW k hk
      · intro j k hjk hk hj hak hsk
        have hp : ops[k]? = some ops[k] := Array.getElem?_eq_getElem (by omega)
        have hpj : ops[j]? = some ops[j] := Array.getElem?_eq_getElem (by omega)
        rw [hp] at hak
        rw [hpj] at hj
        have hc : conf hh ops ops[j] ops[k] = true := by
          unfold conf
          have : (wrT hh ops[j]).any (fun x => (((ops[k]).looksAt ops).contains x && !(mvM hh false ops[k] == some x && mvM hh true ops[j] == some x)) || (wrT hh ops[k]).contains x) = true := List.any_eq_true.2 ⟨x, by simpa using hj, by simp at hak; simp [hak]⟩
          simp only [this, Bool.true_or, Bool.or_true]
        exact befT_mem (S := fun k => listed.getD k false = true) hcl hp (((drawOk_spec hok hp).2 j _ hjk hpj).1 hc) (hcl k _ hp hsk)
    have agL : ∀ d, boxR hh o = some d ∨ boxW hh o = some d → look σ.l d = look (f i).l d := by
      intro d hd
      rw [hl]
      refine last_eq (fun k hk => frL d k (by omega)) _ (Nat.le_of_lt hlt) (fun k hk hw => ?_) (fun k h1 h2 hw => ?_)
      · have hp : ops[k]? = some ops[k] := Array.getElem?_eq_getElem (by omega)
        rw [hp] at hw
        have hw : boxW hh ops[k] = some d := by simpa using hw
        refine early k _ hk hp ?_
        unfold conf
        rcases hd with hd | hd
        · have : meetB (boxW hh ops[k]) (boxR hh o) = true := meetB_iff.2 ⟨d, hw, hd⟩
          simp only [this, Bool.true_or, Bool.or_true]
        · have : meetB (boxW hh ops[k]) (boxW hh o) = true := meetB_iff.2 ⟨d, hw, hd⟩
          simp only [this, Bool.true_or, Bool.or_true]
      · by_cases hki : k = i
        · subst hki; exact hSi
        · have hp : ops[k]? = some ops[k] := Array.getElem?_eq_getElem (by omega)
          rw [hp] at hw
          have hw : boxW hh ops[k] = some d := by simpa using hw
          refine late k _ (by omega) hp ?_
          unfold conf
          rcases hd with hd | hd
          · have : meetB (boxR hh o) (boxW hh ops[k]) = true := meetB_iff.2 ⟨d, hd, hw⟩
            simp only [this, Bool.true_or, Bool.or_true]
          · have : meetB (boxW hh o) (boxW hh ops[k]) = true := meetB_iff.2 ⟨d, hd, hw⟩
            simp only [this, Bool.true_or, Bool.or_true]
    have alC : ∀ p : Oper, allowS hh p = true → seesS hh p = true ∧ plS hh p = false := by
      intro p hp
      constructor
      · unfold allowS at hp; simp only [Bool.and_eq_true] at hp; exact hp.1
      · cases hq : plS hh p with
        | false => rfl
        | true => obtain ⟨_, _, _, _, h, _⟩ := plS_load hq; rw [hp] at h; cases h
    have agS2 : plS hh o = true → dS σ.s = dS (f i).s := by
      intro hpl
      obtain ⟨_, _, _, _, _, hse⟩ := plS_load hpl
      have frW : ∀ k, k < ops.size → (match ops[k]? with | some o => allowS hh o && !mvS hh o | none => false) = false → dS (f (k + 1)).s = dS (f k).s := by
        intro k hk hw
        have hp : ops[k]? = some ops[k] := by simp [hk]
        rw [hp] at hw
        cases ha : allowS hh ops[k] with
        | false => rw [stepD_s (hfa k _ hp) ha]
        | true =>
          simp only [ha, Bool.true_and, Bool.not_eq_false'] at hw
          exact stepD_mv (hfa k _ hp) hw
      rw [hss, last_map dS]
      rw [last_less (W := fun k => match ops[k]? with | some o => allowS hh o && !mvS hh o | none => false)]
      · refine last_eq (v := fun k => dS (f k).s) (fun k hk => frW k (by omega)) _ (Nat.le_of_lt hlt) (fun k hk hw => ?_) (fun k h1 h2 hw => ?_)
        · have hp : ops[k]? = some ops[k] := Array.getElem?_eq_getElem (by omega)
          rw [hp] at hw
          simp only [Bool.and_eq_true, Bool.not_eq_true'] at hw
          refine early k _ hk hp ?_
          unfold conf
          simp only [hw.1, hw.2, hse, Bool.false_and, Bool.not_false, Bool.and_true, Bool.true_or, Bool.or_true]
        · by_cases hki : k = i
          · subst hki; exact hSi
          · have hp : ops[k]? = some ops[k] := Array.getElem?_eq_getElem (by omega)
            rw [hp] at hw
            simp only [Bool.and_eq_true, Bool.not_eq_true'] at hw
            refine late k _ (by omega) hp ?_
            unfold conf
            simp only [hw.1, hw.2, hse, Bool.and_false, Bool.not_false, Bool.and_true, Bool.true_or, Bool.or_true]
      · intro k hw
        cases hp : ops[k]? with
        | none => rw [hp] at hw; cases hw
        | some p => rw [hp] at hw; simp only [Bool.and_eq_true] at hw ⊢; exact hw.1
      · exact fun k hk => frW k hk
      · intro j k hjk hk hj hak hsk
        have hp : ops[k]? = some ops[k] := Array.getElem?_eq_getElem (by omega)
        have hpj : ops[j]? = some ops[j] := Array.getElem?_eq_getElem (by omega)
        rw [hp] at hak
        rw [hpj] at hj
        have hc : conf hh ops ops[j] ops[k] = true := by
          unfold conf
          simp only [show allowS hh ops[j] = true from hj, (alC _ hak).1, (alC _ hak).2, Bool.and_false, Bool.false_and, Bool.not_false, Bool.and_true, Bool.true_or, Bool.or_true]
        exact befT_mem (S := fun k => listed.getD k false = true) hcl hp (((drawOk_spec hok hp).2 j _ hjk hpj).1 hc) (hcl k _ hp hsk)
    have agS : seesS hh o = true → plS hh o = false → σ.s = (f i).s := by
      intro hse hpl
      rw [hss]
      refine last_eq (fun k hk => frS k (by omega)) _ (Nat.le_of_lt hlt) (fun k hk hw => ?_) (fun k h1 h2 hw => ?_)
      · have hp : ops[k]? = some ops[k] := Array.getElem?_eq_getElem (by omega)
        rw [hp] at hw
        refine early k _ hk hp ?_
        unfold conf
        simp only [show allowS hh ops[k] = true from hw, hse, hpl, Bool.and_false, Bool.false_and, Bool.not_false, Bool.and_true, Bool.true_or, Bool.or_true]
      · by_cases hki : k = i
        · subst hki; exact hSi
        · have hp : ops[k]? = some ops[k] := Array.getElem?_eq_getElem (by omega)
          rw [hp] at hw
          refine late k _ (by omega) hp ?_
          unfold conf
          simp only [show allowS hh ops[k] = true from hw, hse, hpl, Bool.and_false, Bool.false_and, Bool.not_false, Bool.and_true, Bool.true_or, Bool.or_true]
    have noL : ∀ d, isAlloc o = true → o.dst = some d → noLp d σ.t = true := by
      intro d ha hd
      have hmem : mem (allocDs ops.toList) d = true := allocDs_mem (i := i) (by simpa using ho) ha hd
      refine noLp_look hs.nd fun x v hv => ?_
      rw [ht] at hv
      cases hq : isLp d v with
      | false => rfl
      | true =>
        rcases last_src (S := fun i => listed.getD i false) (W := fun k => match ops[k]? with | some o => (wrT hh o).contains x | none => false) (v := fun k => look (f k).t x) ops.size with e | ⟨k, hk, hS, hWk, e⟩
        · rw [e] at hv
          have := h0 x v hv d ((mem_iff _ _).1 hmem)
          rw [hq] at this; cases this
        · rw [e] at hv
          have hp : ops[k]? = some ops[k] := by simp [hk]
          simp only [hp] at hWk
          obtain ⟨a1, a2⟩ := stepD_okLp (i := k) (hfa k _ hp) (hnd k (by omega)) (by simpa using hp) (x := x) (d := d) (by simpa using hWk) hmem hv hq
          have hki : k ≠ i := fun e => by subst e; rw [hSi] at hS; cases hS
          rcases Nat.lt_or_gt_of_ne hki with h | h
          · exact absurd ⟨a1, ha, a2.trans hd.symm⟩ ((drawOk_spec hok ho).2 k _ h hp).2
          · exact absurd ⟨ha, a1, hd.trans a2.symm⟩ ((drawOk_spec hok hp).2 i o h ho).2
    obtain ⟨σ', hstep, hal, hsr⟩ : ∃ st2', Step2 P hh C ops.toList o σ st2' ∧ Alike (wrT hh o) (boxW hh o) (f (i + 1)) σ st2' ∧ (((f (i + 1)).s = (f i).s ∧ st2'.s = σ.s) ∨ (seesS hh o = true ∧ plS hh o = false ∧ st2'.s = (f (i + 1)).s)) := by
      cases hpm : mvM hh false o with
      | some x => exact stepD_pl hD hpm (agT2 x hpm)
      | none =>
        have agT' := fun x hx => agT x hx (by rw [hpm]; simp)
        have hg : wantedA ops.toList o.guard σ = wantedA ops.toList o.guard (f i) := by
          unfold wantedA
          cases hgo : o.guard with
          | none => rfl
          | some p =>
            obtain ⟨j, want⟩ := p
            simp only
            split
            · rename_i d hd
              rw [dstAt_eq] at hd
              have : look σ.t d = look (f i).t d := agT' d (List.mem_append_right _ (by simp [hgo]; simpa using hd))
              rw [this]
            · rfl
        exact stepD_local2 hD (fun x hx => by
          cases x with
          | tmp t => exact agT' t (List.mem_append_left _ (List.mem_filterMap.2 ⟨.tmp t, by simpa using hx, rfl⟩))
          | _ => rfl) agS agS2 agL noL hg
    -- what holds behind it
    have hS' : ∀ k, (listed.setIfInBounds i true).getD k false = (listed.getD k false || decide (k = i)) := by
      intro k
      by_cases hk : k = i
      · subst hk; simp [hlt']
      · rw [getD_set_ne false (fun e => hk e.symm)]; simp [hk]
    have next : ∀ a' w' μ' lx', Sim B T0 μ0 w0 N μ' lx' a' w' σ' → wpAny P .any ops Q fuel (listed.setIfInBounds i true) a' w' := by
      intro a' w' μ' lx' hsim
      refine ih _ a' w' μ' lx' σ' (by simp [hsz]) ?_ ?_ hsim (fun x => ?_) (fun d => ?_) ?_
      · have := cnt_add (S := fun i => listed.getD i false) (S' := fun k => (listed.setIfInBounds i true).getD k false) hS' hSi ops.size
        rw [if_pos hlt] at this; omega
      · intro j p hp hj e he hb
        rw [hS'] at hj ⊢
        simp only [Bool.or_eq_true, decide_eq_true_eq] at hj ⊢
        rcases hj with hj | rfl
        · exact .inl (hcl j p hp hj e he hb)
        · rw [ho] at hp; injection hp with hp; subst hp; exact .inl (hpre e he hb)
      · rw [last_add (S := fun i => listed.getD i false) hS' ops.size hlt, hal.t x]
        · simp only [ho]
          by_cases hx : x ∈ wrT hh o
          · simp [hx]
          · simp [hx, ht x]
        · intro hw k h1 h2 hwk
          have hp : ops[k]? = some ops[k] := by simp [h2]
          simp only [ho] at hw
          simp only [hp] at hwk
          refine late k _ h1 hp ?_
          unfold conf
          have : (wrT hh o).any (fun x => ((ops[k].looksAt ops).contains x && !(mvM hh false ops[k] == some x && mvM hh true o == some x)) || (wrT hh ops[k]).contains x) = true := List.any_eq_true.2 ⟨x, by simpa using hw, by simp at hwk; simp [hwk]⟩
          simp only [this, Bool.true_or, Bool.or_true]
      · rw [last_add (S := fun i => listed.getD i false) hS' ops.size hlt, hal.l d]
        · simp only [ho]
          by_cases hx : boxW hh o = some d
          · simp [hx]
          · simp [hx, hl d]
        · intro hw k h1 h2 hwk
          have hp : ops[k]? = some ops[k] := by simp [h2]
          simp only [ho] at hw
          simp only [hp] at hwk
          refine late k _ h1 hp ?_
          unfold conf
          have : meetB (boxW hh o) (boxW hh ops[k]) = true := meetB_iff.2 ⟨d, by simpa using hw, by simpa using hwk⟩
          simp only [this, Bool.true_or, Bool.or_true]
      · rw [last_add (S := fun i => listed.getD i false) hS' ops.size hlt]
        · simp only [ho]
          cases ha : allowS hh o with
          | true =>
            simp only [if_true]
            have hse : seesS hh o = true := by unfold allowS at ha; simp only [Bool.and_eq_true] at ha; exact ha.1
            rcases hsr with ⟨q1, q2⟩ | ⟨_, _, q2⟩
            · rw [q2, agS hse (alC o ha).2, q1]
            · exact q2
          | false =>
            simp only [Bool.false_eq_true, if_false]
            rw [← hss]
            rcases hsr with ⟨q1, q2⟩ | ⟨hse, hpl, q2⟩
            · exact q2
            · rw [q2, stepD_s hD ha, agS hse hpl]
        · intro hw k h1 h2 hwk
          have hp : ops[k]? = some ops[k] := by simp [h2]
          simp only [ho] at hw
          simp only [hp] at hwk
          refine late k _ h1 hp ?_
          unfold conf
          simp only [hw, (alC _ hwk).1, (alC _ hwk).2, Bool.and_false, Bool.false_and, Bool.not_false, Bool.and_true, Bool.true_or, Bool.or_true]

    have hdN := opsOk_mem hN (i := i) (o := o) (by simpa using ho)
    unfold wpOp
    rw [ho]
    simp only
    rcases hstep with ⟨hw, hst⟩ | ⟨hw, hst⟩
    · rw [wanted_sound hs hw]
      exact .inl (step_sound hs hW hC hdN hst _ _ fun μ' lx' a' w' hsim => next a' w' μ' lx' hsim)
    · rw [wanted_sound hs hw]
      simp only [Bool.false_eq_true, if_false]
      refine next _ _ μ lx ?_
      subst hst
      exact skip_sound hs hdN

theorem draw_sound (hm : P.follows .mixedOrders = true) : DrawOk P B W0 hh C := by
  intro T0 μ0 w0 N id ops st st' μ lx a w Q hW hC h hok hN e k
  unfold regionA at e
  rw [if_pos rfl] at e
  obtain ⟨f, h1, h2, h3⟩ := runD_trace _ e
  refine wp_region_any hm ?_
  have hdr : ({ w with drawn := w.drawn + 1 } : World) = w.drew := rfl
  rw [hdr]
  have hs0 : Sim B T0 μ0 w0 N μ lx a w.drew (f 0) := by
    rw [h1]
    have := h.drew.1
    obtain ⟨k1, k2⟩ := look_dropAll (allocDs ops.toList) st.t h.nd
    exact this.sub (fun i v e => (k2 i v e).1) k1 fun d cs e => e
  have hsz : f ops.size = st' := by rw [← h2]; simp
  have hno : ∀ i, (Array.replicate ops.size false).getD i false = false := fun i => by
    rw [Array.getD_eq_getD_getElem?]
    by_cases hi : i < ops.size <;> simp [hi]
  have hlast : ∀ {α : Type} (W : Nat → Bool) (v : Nat → α) n, last (fun i => (Array.replicate ops.size false).getD i false) W v n = v 0 := by
    intro α W v n
    rcases last_src (S := fun i => (Array.replicate ops.size false).getD i false) (W := W) (v := v) n with e | ⟨k, _, hS, _⟩
    · exact e
    · simp only [hno] at hS; cases hS
  refine wpAny_draw hok hN hW hC h3 hs0.nd ?_ (fun μ' lx' a' w' hs => k μ' lx' a' w' (by rw [← hsz]; exact hs)) ops.size _ a _ μ lx (f 0) (by simp) ?_ ?_ hs0 (fun x => (hlast _ (fun k => look (f k).t x) _).symm) (fun d => (hlast _ (fun k => look (f k).l d) _).symm) (hlast _ (fun k => (f k).s) _).symm
  · intro i v e d hd
    rw [h1] at e
    exact ((look_dropAll (allocDs ops.toList) st.t h.nd).2 i v e).2 d hd
  · have : ∀ n, cnt (fun i => (Array.replicate ops.size false).getD i false) n = n := by
      intro n
      induction n with
      | zero => rfl
      | succ n ih =>
        show cnt _ n + (if (Array.replicate ops.size false).getD n false = true then 0 else 1) = n + 1
        rw [ih, hno]; rfl
    exact this _
  · intro j o _ hj
    rw [hno] at hj; cases hj
end
end Go.AI
end
section
/- The evaluation by rewriting. No program is in sight. -/
namespace Go.AI
set_option linter.unusedVariables false

universe u
theorem nrfl {α : Sort u} {a b : α} (h : a = b) : a = b := h
@[congr] theorem bnd_congr {α β : Type} {x y : Option α} {f : α → Option β} (e : x = y) : bnd x f = bnd y f := by rw [e]
@[congr] theorem thenE_congr {x y : Option (Ex × St)} {k : St → Option (Ex × St)} (e : x = y) : thenE x k = thenE y k := by rw [e]
@[congr] theorem condE_congr {α : Type} {c d : Option AV} {x y : Option α} (e : c = d) : condE c x y = condE d x y := by rw [e]
@[congr] theorem sel_congr {α : Type} {c d : Option Bool} {x y : Option α} (e : c = d) : sel c x y = sel d x y := by rw [e]
section
variable {P : Program} {h : Hint} {C : Oracle} {st : St}
@[congr] theorem EXEC_congr {c : Code} {s t : St} (e : s = t) : EXEC P h C c s = EXEC P h C c t := by rw [e]
@[congr] theorem runOps_congr {a b : List Oper} {s t : St} (e : s = t) : runOps P h C a b s = runOps P h C a b t := by rw [e]
@[congr] theorem runD_congr {ds : List Nat} {a b : List Oper} {s t : St} (e : s = t) : runD P h C ds a b s = runD P h C ds a b t := by rw [e]
@[congr] theorem finE_congr {fn : Func} {s0 : List (List AV)} {x y : Option (Ex × St)} (e : x = y) : finE P h s0 fn x = finE P h s0 fn y := by rw [e]

@[simp] theorem bnd_some {α β : Type} (a : α) (f : α → Option β) : bnd (some a) f = f a := nrfl rfl
@[simp] theorem bnd_none {α β : Type} (f : α → Option β) : bnd none f = none := nrfl rfl
theorem bnd_assoc {α β γ : Type} (x : Option α) (f : α → Option β) (g : β → Option γ) : bnd (bnd x f) g = bnd x fun a => bnd (f a) g := by cases x <;> rfl
@[simp] theorem thenE_normal (st : St) (k) : thenE (some (.normal, st)) k = k st := nrfl rfl
@[simp] theorem thenE_ret (st : St) (k) : thenE (some (.ret, st)) k = some (.ret, st) := nrfl rfl
@[simp] theorem thenE_exit (st : St) (i k) : thenE (some (.exit i, st)) k = some (.exit i, st) := nrfl rfl
@[simp] theorem thenE_none (k) : thenE none k = none := nrfl rfl
@[simp] theorem blkE_normal (st : St) (i) : blkE i (some (.normal, st)) = some (.normal, st) := nrfl rfl
@[simp] theorem blkE_ret (st : St) (i) : blkE i (some (.ret, st)) = some (.ret, st) := nrfl rfl
@[simp] theorem blkE_exit (st : St) (i j) : blkE i (some (.exit j, st)) = if j = i then some (.normal, st) else some (.exit j, st) := nrfl rfl
@[simp] theorem condE_bool {α : Type} (b : Bool) (x y : Option α) : condE (some (.bool b)) x y = if b = true then x else y := by cases b <;> rfl
@[simp] theorem sel_true {α : Type} (x y : Option α) : sel (some true) x y = x := nrfl rfl
@[simp] theorem sel_false {α : Type} (x y : Option α) : sel (some false) x y = y := nrfl rfl
/-- first the state, then what comes of it -/
def strict {α : Type} (x : St) (f : St → α) : α := f x
@[congr] theorem strict_congr {α : Type} {x y : St} {f : St → α} (e : x = y) : strict x f = strict y f := by rw [e]
@[simp] theorem strict_mk {α : Type} {t : List (Nat × AV)} {l : List (Nat × List AV)} {s : List (List AV)} {f : St → α} : strict ⟨t, l, s⟩ f = f ⟨t, l, s⟩ := nrfl rfl
/-- not an operation on boxes of slices -/
def ms0 {α : Type} (b : Bool) (x : Option α) : Option α := if b then none else x
@[congr] theorem ms0_congr {α : Type} {b c : Bool} {x : Option α} (e : b = c) : ms0 b x = ms0 c x := by rw [e]
@[simp ↓] theorem ms0_false {α : Type} {x : Option α} : ms0 false x = x := nrfl rfl
@[simp ↓] theorem ms0_true {α : Type} {x : Option α} : ms0 true x = none := nrfl rfl
def ms2 {α : Type} (b : Bool) (x y : Option α) : Option α := if b then x else y
@[congr] theorem ms2_congr {α : Type} {b c : Bool} {x y : Option α} (e : b = c) : ms2 b x y = ms2 c x y := by rw [e]
@[simp ↓] theorem ms2_false {α : Type} {x y : Option α} : ms2 false x y = y := nrfl rfl
@[simp ↓] theorem ms2_true {α : Type} {x y : Option α} : ms2 true x y = x := nrfl rfl
def strict2 {α : Type} (x : List Nat) (f : List Nat → α) : α := f x
@[congr] theorem strict2_congr {α : Type} {x y : List Nat} {f : List Nat → α} (e : x = y) : strict2 x f = strict2 y f := by rw [e]
@[simp] theorem strict2_nil {α : Type} {f : List Nat → α} : strict2 [] f = f [] := nrfl rfl
@[simp] theorem strict2_cons {α : Type} {x : Nat} {r : List Nat} {f : List Nat → α} : strict2 (x :: r) f = f (x :: r) := nrfl rfl
@[simp ↓] theorem runOps_nil {ops} : runOps P h C ops [] st = some st := nrfl rfl
@[simp ↓] theorem runOps_cons {ops o r} : runOps P h C ops (o :: r) st = sel (wantedA ops o.guard st) (bnd (stepOp P h C o st) fun st => runOps P h C ops r st) (strict (st.put o.dst (.tup [])) fun st => runOps P h C ops r st) := nrfl rfl
@[simp ↓] theorem runD_nil {ds ops} : runD P h C ds ops [] st = some st := nrfl rfl
@[simp ↓] theorem runD_cons {ds ops o r} : runD P h C ds ops (o :: r) st = sel (wantedA ops o.guard st)
      (bnd (if preD h o st = true then stepOp P h C o st else none) fun st' => need (allowS h o = true ∨ st'.s = st.s) (if postD h ds o st'.t = true then runD P h C ds ops r st' else none))
      (if okAll ds st.t (tkT h o).toList = true then strict (st.put o.dst (.tup [])) (fun st => runD P h C ds ops r st) else none) := nrfl rfl
theorem need_of {α : Type} {p : Prop} {x : Option α} (hp : p) : need p x = x := by unfold need; rw [if_pos hp]
@[simp] theorem need_true {α : Type} (x : Option α) : need True x = x := need_of trivial

section
variable {d : Option Tmp} {n : Nat} {T : TypeId} {pos : String} {af : Array Edge} {g : Option (Nat × Bool)}
@[simp ↓] theorem step_assign {x} : stepOp P h C ⟨d, .assign x, T, pos, af, g⟩ st = ms0 (isMs h d) (bnd (takeOp st x) fun p => bnd (norm P T p.1) fun v => some (p.2.put d v)) := by
  cases hm : isMs h d
  · rw [ms0_false]; simp only [stepOp, hm, Bool.false_eq_true, if_false, opVal, bnd_assoc, bnd_some]
  · rw [ms0_true]; simp only [stepOp, hm, if_true]; rfl
@[simp ↓] theorem step_move {x} : stepOp P h C ⟨d, .move x, T, pos, af, g⟩ st = ms0 (isMs h d) (bnd (lend st x (steals h d)) fun p => some (p.2.put d p.1)) := by
  cases hm : isMs h d
  · rw [ms0_false]; simp only [stepOp, hm, Bool.false_eq_true, if_false, opVal]
  · rw [ms0_true]; simp only [stepOp, hm, if_true]; rfl
@[simp ↓] theorem step_extract {x i} : stepOp P h C ⟨d, .extract x i, T, pos, af, g⟩ st = ms0 (isMs h d) (bnd (lend st x (steals h d)) fun p => bnd (match p.1 with
    | .tup vs => bnd vs[i]? fun v => if pers v = true then some (v, p.2) else none
    | _ => none) fun p => some (p.2.put d p.1)) := by
  cases hm : isMs h d
  · rw [ms0_false]; simp only [stepOp, hm, Bool.false_eq_true, if_false, opVal, bnd_assoc]; rfl
  · rw [ms0_true]; simp only [stepOp, hm, if_true]; rfl
@[simp ↓] theorem step_pick {c x y} : stepOp P h C ⟨d, .pick c x y, T, pos, af, g⟩ st = ms0 (isMs h d) (bnd (aeval st c) fun t => bnd (match t with
    | .bool t => bnd (aeval st (if t = true then x else y)) fun v => some (dem v)
    | _ => none) fun v => some (st.put d v)) := by
  cases hm : isMs h d
  · rw [ms0_false]
    simp only [stepOp, hm, Bool.false_eq_true, if_false, opVal, opPure, bnd_assoc, bnd_some]
    rfl
  · rw [ms0_true]; simp only [stepOp, hm, if_true]; rfl
@[simp ↓] theorem step_buildSlice {x y z} : stepOp P h C ⟨d, .buildSlice x y z, T, pos, af, g⟩ st = ms2 (isMs h d) (bnd (msOp P h ⟨d, .buildSlice x y z, T, pos, af, g⟩ st) fun p => some (p.2.put d p.1)) (bnd (opPure P h ⟨d, .buildSlice x y z, T, pos, af, g⟩ st) fun v => some (st.put d v)) := by
  cases hm : isMs h d
  · rw [ms2_false]; simp only [stepOp, hm, Bool.false_eq_true, if_false, opVal, bnd_assoc, bnd_some]
  · rw [ms2_true]; simp only [stepOp, hm, if_true]
@[simp ↓] theorem step_load {t x} : stepOp P h C ⟨d, .load t x, T, pos, af, g⟩ st = ms2 (isMs h d) (bnd (msLoad P h t x st) fun p => some (p.2.put d p.1)) (bnd (aeval st x) fun p => bnd (boxOf st p) fun b => bnd (readCells P t b.1 b.2) fun v => bnd (if steals h d = true then none else some (dem v)) fun v => some (st.put d v)) := by
  cases hm : isMs h d
  · rw [ms2_false]; simp only [stepOp, hm, Bool.false_eq_true, if_false, opVal, opPure, bnd_assoc, bnd_some]
  · rw [ms2_true]; simp only [stepOp, hm, if_true]; rfl
@[simp ↓] theorem step_nilCheck {x} : stepOp P h C ⟨d, .nilCheck x, T, pos, af, g⟩ st = ms0 (isMs h d) (bnd (opPure P h ⟨d, .nilCheck x, T, pos, af, g⟩ st) fun v => some (st.put d v)) := by
  cases hm : isMs h d
  · rw [ms0_false]; simp only [stepOp, hm, Bool.false_eq_true, if_false, opVal, bnd_assoc, bnd_some]
  · rw [ms0_true]; simp only [stepOp, hm, if_true]; rfl
@[simp ↓] theorem step_binOp {op t x y v} : stepOp P h C ⟨d, .binOp op t x y v, T, pos, af, g⟩ st = ms0 (isMs h d) (bnd (aeval st x) fun a => bnd (aeval st y) fun b => bnd (bin P op (isCst x || isCst y) t a b) fun v => some (st.put d v)) := by
  cases hm : isMs h d
  · rw [ms0_false]; simp only [stepOp, hm, Bool.false_eq_true, if_false, opVal, opPure, bnd_assoc, bnd_some]
  · rw [ms0_true]; simp only [stepOp, hm, if_true]; rfl
@[simp ↓] theorem step_unOp {op t x} : stepOp P h C ⟨d, .unOp op t x, T, pos, af, g⟩ st = ms0 (isMs h d) (bnd (aeval st x) fun a => bnd (un op a) fun v => some (st.put d v)) := by
  cases hm : isMs h d
  · rw [ms0_false]; simp only [stepOp, hm, Bool.false_eq_true, if_false, opVal, opPure, bnd_assoc, bnd_some]
  · rw [ms0_true]; simp only [stepOp, hm, if_true]; rfl
@[simp ↓] theorem step_convert {t u x} : stepOp P h C ⟨d, .convert t u x, T, pos, af, g⟩ st = ms2 (isMs h d) (bnd (msConv P h t u x d st) fun p => some (p.2.put d p.1)) (bnd (aeval st x) fun a => bnd (conv P t u a) fun v => some (st.put d v)) := by
  cases hm : isMs h d
  · rw [ms2_false]; simp only [stepOp, hm, Bool.false_eq_true, if_false, opVal, opPure, bnd_assoc, bnd_some]
  · rw [ms2_true]; simp only [stepOp, hm, if_true]; rfl
@[simp ↓] theorem step_makeInterface {x y} : stepOp P h C ⟨d, .makeInterface x y, T, pos, af, g⟩ st = ms0 (isMs h d) (bnd (opPure P h ⟨d, .makeInterface x y, T, pos, af, g⟩ st) fun v => some (st.put d v)) := by
  cases hm : isMs h d
  · rw [ms0_false]; simp only [stepOp, hm, Bool.false_eq_true, if_false, opVal, bnd_assoc, bnd_some]
  · rw [ms0_true]; simp only [stepOp, hm, if_true]; rfl
@[simp ↓] theorem step_makeFunc {x y z} : stepOp P h C ⟨d, .makeFunc (.func x) y z, T, pos, af, g⟩ st = ms0 (isMs h d) (bnd (opPure P h ⟨d, .makeFunc (.func x) y z, T, pos, af, g⟩ st) fun v => some (st.put d v)) := by
  cases hm : isMs h d
  · rw [ms0_false]; simp only [stepOp, hm, Bool.false_eq_true, if_false, opVal, bnd_assoc, bnd_some]
  · rw [ms0_true]; simp only [stepOp, hm, if_true]; rfl
@[simp ↓] theorem step_makeSlice {x y z} : stepOp P h C ⟨d, .makeSlice x y z, T, pos, af, g⟩ st = ms2 (isMs h d) (bnd (msOp P h ⟨d, .makeSlice x y z, T, pos, af, g⟩ st) fun p => some (p.2.put d p.1)) (bnd (opPure P h ⟨d, .makeSlice x y z, T, pos, af, g⟩ st) fun v => some (st.put d v)) := by
  cases hm : isMs h d
  · rw [ms2_false]; simp only [stepOp, hm, Bool.false_eq_true, if_false, opVal, bnd_assoc, bnd_some]
  · rw [ms2_true]; simp only [stepOp, hm, if_true]
@[simp ↓] theorem step_slice {t x lo hi mx} : stepOp P h C ⟨d, .slice t x lo hi mx, T, pos, af, g⟩ st = ms2 (isMs h d) (bnd (msSlice P t x lo hi mx st) fun p => some (p.2.put d p.1)) (bnd (aeval st x) fun v => bnd (aevalO st lo) fun lo => bnd (aevalO st hi) fun hi => bnd (aevalO st mx) fun mx => bnd (sliceA P t v lo hi mx) fun v => some (st.put d v)) := by
  cases hm : isMs h d
  · rw [ms2_false]; simp only [stepOp, hm, Bool.false_eq_true, if_false, opVal, opPure, bnd_assoc, bnd_some]
  · rw [ms2_true]; simp only [stepOp, hm, if_true]; rfl
@[simp ↓] theorem step_fieldAddr {t x f} : stepOp P h C ⟨d, .fieldAddr t x f, T, pos, af, g⟩ st = ms0 (isMs h d) (bnd (aeval st x) fun a => bnd (fieldAddrA P t a f) fun v => some (st.put d v)) := by
  cases hm : isMs h d
  · rw [ms0_false]; simp only [stepOp, hm, Bool.false_eq_true, if_false, opVal, opPure, bnd_assoc, bnd_some]
  · rw [ms0_true]; simp only [stepOp, hm, if_true]; rfl
@[simp ↓] theorem step_field {x y z} : stepOp P h C ⟨d, .field x y z, T, pos, af, g⟩ st = ms0 (isMs h d) (bnd (opPure P h ⟨d, .field x y z, T, pos, af, g⟩ st) fun v => some (st.put d v)) := by
  cases hm : isMs h d
  · rw [ms0_false]; simp only [stepOp, hm, Bool.false_eq_true, if_false, opVal, bnd_assoc, bnd_some]
  · rw [ms0_true]; simp only [stepOp, hm, if_true]; rfl
@[simp ↓] theorem step_indexAddr {t x i} : stepOp P h C ⟨d, .indexAddr t x i, T, pos, af, g⟩ st = ms0 (isMs h d) (bnd (aeval st x) fun a => bnd (aeval st i) fun i => bnd (indexAddrA P t a i) fun v => some (st.put d v)) := by
  cases hm : isMs h d
  · rw [ms0_false]; simp only [stepOp, hm, Bool.false_eq_true, if_false, opVal, opPure, bnd_assoc, bnd_some]
  · rw [ms0_true]; simp only [stepOp, hm, if_true]; rfl
@[simp ↓] theorem step_index {t x i} : stepOp P h C ⟨d, .index t x i, T, pos, af, g⟩ st = ms0 (isMs h d) (bnd (aeval st x) fun a => bnd (aeval st i) fun i => bnd (indexA P t a i) fun v => some (st.put d (dem v))) := by
  cases hm : isMs h d
  · rw [ms0_false]; simp only [stepOp, hm, Bool.false_eq_true, if_false, opVal, opPure, bnd_assoc, bnd_some]
  · rw [ms0_true]; simp only [stepOp, hm, if_true]; rfl
@[simp ↓] theorem step_call {c} : stepOp P h C ⟨d, .call c, T, pos, af, g⟩ st = ms2 (isMs h d) (bnd (msOp P h ⟨d, .call c, T, pos, af, g⟩ st) fun p => some (p.2.put d p.1)) (bnd (callA P h C d c st) fun p => some (p.2.put d p.1)) := by
  cases hm : isMs h d
  · rw [ms2_false]; simp only [stepOp, hm, Bool.false_eq_true, if_false, opVal]
  · rw [ms2_true]; simp only [stepOp, hm, if_true]
@[simp ↓] theorem msOp_append {x y t t'} : msOp P h ⟨d, .call ⟨.builtin .append, #[x, y], #[t, t']⟩, T, pos, af, g⟩ st = msAppend P h t t' x y d st := nrfl rfl
@[simp ↓] theorem msOp_copy {x y t t'} : msOp P h ⟨d, .call ⟨.builtin .copy, #[x, y], #[t, t']⟩, T, pos, af, g⟩ st = msCopy P t t' x y st := nrfl rfl
@[simp ↓] theorem step_alloc {t} : stepOp P h C ⟨d, .alloc t, T, pos, af, g⟩ st = bnd (zeroA P t) fun z => newBox h d t z.cells st := nrfl rfl
@[simp ↓] theorem step_box {t x} : stepOp P h C ⟨d, .box t x, T, pos, af, g⟩ st = bnd (takeOp st x) fun p => if pers p.1 = true then bnd (norm P t p.1) fun v => newBox h d t v.cells p.2 else none := nrfl rfl
@[simp ↓] theorem step_store {t a x} : stepOp P h C ⟨none, .store t a x, T, pos, af, g⟩ st = storeA P t a x st := nrfl rfl
@[simp ↓] theorem call_value {f xs ts} : callA P h C d ⟨.value f, xs, ts⟩ st = bnd (aeval st f) fun g => match g with
    | .fn g cap => if g < 100000 then bnd (aevals st xs.toList) fun as => bnd (args as) fun as => bnd (moved st xs.toList as (mvI h d)) fun q => bnd (C (vary h d g) (q.1 ++ cap) q.2.s) fun r => some (r.1, { q.2 with s := r.2 }) else none
    | .fb g fs => if g < 100000 then bnd (aevals st xs.toList) fun as => bnd (args as) fun as => bnd (C (vary h d g) (fs ++ as) st.s) fun r => some (r.1, { st with s := r.2 }) else none
    | _ => none := nrfl rfl
@[simp ↓] theorem moved_none {st : St} {xs as} : moved st xs as none = some (as, st) := nrfl rfl
@[simp ↓] theorem moved_some {st : St} {xs as i} : moved st xs as (some i) = bnd xs[i]? fun x => bnd (takeOp st x) fun p => match p.1 with
    | .sl (.ex ty sz) ys => some (as.set i (.sl (.ex ty sz) ys), p.2)
    | .ms _ _ _ _ _ => some (as, st)
    | _ => none := nrfl rfl
@[simp ↓] theorem call_invoke {rv : Operand} {name : String} {xs ts} : callA P h C d ⟨.invoke rv name, xs, ts⟩ st = bnd (aeval st rv) fun v => match v with
    | .ifc t v => bnd (invF h d) fun g => if g < 100000 ∧ pers v = true ∧ quiet v = true then need (meth P t g name) (bnd (aevals st xs.toList) fun as => bnd (args as) fun as => bnd (C (vary h d g) (v :: as) st.s) fun r => some (r.1, { st with s := r.2 })) else none
    | _ => none := nrfl rfl
attribute [simp] invF mvI
@[simp ↓] theorem call_append {x y t t'} : callA P h C d ⟨.builtin .append, #[x, y], #[t, t']⟩ st = appendA P t t' x y st := nrfl rfl
@[simp ↓] theorem call_len {x t} : callA P h C d ⟨.builtin .len, #[x], #[t]⟩ st = bnd (aeval st x) fun v => match v with
      | .sl _ xs => if (elemA P t).isSome then some (.int .i64 xs.length, st) else none
      | .ms _ _ _ _ n => if (elemA P t).isSome then some (.int .i64 n, st) else none
      | .str s => need (P.underlying t = some .string) (some (.int .i64 s.length, st))
      | _ => none := by
  simp only [callA, builtP]
  show bnd (bnd (aeval st x) _) _ = _
  rw [bnd_assoc]
  cases aeval st x with
  | none => rfl
  | some v =>
    cases v with
    | sl o xs => simp only [bnd_some]; split <;> rfl
    | ms ty sz b off n => simp only [bnd_some]; split <;> rfl
    | str s => simp only [bnd_some, need]; split <;> rfl
    | _ => rfl
@[simp ↓] theorem call_min {x y ts} : callA P h C d ⟨.builtin .min, #[x, y], ts⟩ st = bnd (aeval st x) fun v => bnd (aeval st y) fun u => match v, u with
      | .int k a, .int _ b => some (.int k (if b < a then b else a), st)
      | _, _ => none := by
  simp only [callA, builtP]
  show bnd (bnd (aeval st x) _) _ = _
  rw [bnd_assoc]
  cases aeval st x with
  | none => rfl
  | some v =>
    simp only [bnd_some, bnd_assoc]
    cases aeval st y with
    | none => rfl
    | some u => cases v <;> cases u <;> rfl
@[simp ↓] theorem call_max {x y ts} : callA P h C d ⟨.builtin .max, #[x, y], ts⟩ st = bnd (aeval st x) fun v => bnd (aeval st y) fun u => match v, u with
      | .int k a, .int _ b => some (.int k (if a < b then b else a), st)
      | _, _ => none := by
  simp only [callA, builtP]
  show bnd (bnd (aeval st x) _) _ = _
  rw [bnd_assoc]
  cases aeval st x with
  | none => rfl
  | some v =>
    simp only [bnd_some, bnd_assoc]
    cases aeval st y with
    | none => rfl
    | some u => cases v <;> cases u <;> rfl
end

section
variable {d : Option Tmp} {n : Nat} {j i : Nat}
@[simp ↓] theorem aeval_tmp' {t l s i} : aeval ⟨t, l, s⟩ (.tmp i) = look t i := nrfl rfl
@[simp] theorem aeval_tmp {t} : aeval st (.tmp t) = look st.t t := nrfl rfl
@[simp ↓] theorem aeval_const {v} : aeval st (.const v) = ofVal v := nrfl rfl
@[simp ↓] theorem aeval_func {f} : aeval st (.func f) = some (.fn f []) := nrfl rfl
@[simp ↓] theorem take_tmp' {t l s i} : takeOp ⟨t, l, s⟩ (.tmp i) = bnd (look t i) fun v => some (v, ⟨ins t i (dem v), l, s⟩) := nrfl rfl
@[simp] theorem take_tmp {t} : takeOp st (.tmp t) = bnd (look st.t t) fun v => some (v, { st with t := ins st.t t (dem v) }) := nrfl rfl
@[simp ↓] theorem take_const {v} : takeOp st (.const v) = bnd (ofVal v) fun v => some (v, st) := nrfl rfl
@[simp ↓] theorem take_func {v} : takeOp st (.func v) = bnd (some (.fn v [])) fun v => some (v, st) := nrfl rfl
@[simp ↓] theorem look_nil {α : Type} : look ([] : List (Nat × α)) i = none := nrfl rfl
@[simp ↓] theorem look_cons {α : Type} {u : α} {r} : look ((j, u) :: r) i = if j = i then some u else look r i := nrfl rfl
@[simp ↓] theorem ins_nil {α : Type} {v : α} : ins [] i v = [(i, v)] := nrfl rfl
@[simp ↓] theorem ins_cons {α : Type} {u v : α} {r} : ins ((j, u) :: r) i v = if j = i then (i, v) :: r else (j, u) :: ins r i v := nrfl rfl
@[simp ↓] theorem mem_nil : mem [] i = false := nrfl rfl
@[simp ↓] theorem mem_cons {r} : mem (j :: r) i = if j = i then true else mem r i := nrfl rfl
@[simp ↓] theorem keep_nil {α : Type} {l} : keep l ([] : List (Nat × α)) = [] := nrfl rfl
@[simp ↓] theorem keep_cons {α : Type} {l} {u : α} {r} : keep l ((j, u) :: r) = if mem l j = true then (j, u) :: keep l r else keep l r := nrfl rfl
@[simp ↓] theorem drop_nil {α : Type} {l} : drop l ([] : List (Nat × α)) = [] := nrfl rfl
@[simp ↓] theorem drop_cons {α : Type} {l} {u : α} {r} : drop l ((j, u) :: r) = if mem l j = true then drop l r else (j, u) :: drop l r := nrfl rfl
@[simp ↓] theorem dropLp_nil : dropLp i [] = [] := nrfl rfl
@[simp ↓] theorem dropLp_cons {u r} : dropLp i ((j, u) :: r) = if isLp i u = true then dropLp i r else (j, u) :: dropLp i r := nrfl rfl
@[simp] theorem put_some {v} : st.put (some n) v = { st with t := ins st.t n v } := nrfl rfl
@[simp] theorem put_none {v} : st.put none v = st := nrfl rfl
@[simp ↓] theorem wanted_none {ops} : wantedA ops none st = some true := nrfl rfl
@[simp ↓] theorem wanted_some {ops j w} : wantedA ops (some (j, w)) st = match dstAt ops j with
    | some d => bnd (look st.t d) fun v => match v with
      | .bool b => some (b == w)
      | .tup _ => some false
      | _ => none
    | none => some false := nrfl rfl
@[simp ↓] theorem dstAt_zero {o r} : dstAt (o :: r) 0 = o.dst := nrfl rfl
@[simp ↓] theorem dstAt_succ {o r} : dstAt (o :: r) (j + 1) = dstAt r j := nrfl rfl
@[simp ↓] theorem lend_true {x} : lend st x true = takeOp st x := nrfl rfl
@[simp ↓] theorem lend_false {x} : lend st x false = bnd (aeval st x) fun v => some (dem v, st) := nrfl rfl
@[simp ↓] theorem regionA_true {ops} : regionA P h C ops true st = strict2 (allocDs ops) fun ds => strict (startD ds st) fun st => runD P h C ds ops ops st := nrfl rfl
@[simp ↓] theorem regionA_false {ops} : regionA P h C ops false st = runOps P h C ops ops st := nrfl rfl
@[simp ↓] theorem allocDs_nil : allocDs [] = [] := nrfl rfl
@[simp ↓] theorem allocDs_alloc {d t T pos af g r} : allocDs (⟨d, .alloc t, T, pos, af, g⟩ :: r) = d.toList ++ allocDs r := nrfl rfl
@[simp ↓] theorem allocDs_box {d t x T pos af g r} : allocDs (⟨d, .box t x, T, pos, af, g⟩ :: r) = d.toList ++ allocDs r := nrfl rfl
@[simp ↓] theorem allocDs_cons {o r} : allocDs (o :: r) = match o.op with
    | .alloc _ => o.dst.toList ++ allocDs r
    | .box _ _ => o.dst.toList ++ allocDs r
    | _ => allocDs r := nrfl rfl
end
attribute [simp] look_nil look_cons ins_nil ins_cons mem_nil mem_cons keep_nil keep_cons drop_nil drop_cons dropLp_nil dropLp_cons
attribute [simp ↓] bnd_some bnd_none thenE_normal thenE_ret thenE_exit thenE_none blkE_normal blkE_ret blkE_exit condE_bool sel_true sel_false need_true
attribute [simp] opPure aevals aevalO isLp dem dem1 clean0 clean1 head rid ofVal ofVal1 ofVals pers finE outA resultsA resultsT resultA steals args arg argN demN params lend
attribute [simp] allowS seesS
attribute [simp] nat? bound? AV.cells writeCells boxOf setBox newBox isNilP startD dropAll preD postD okAll okLp boxR boxW rootT tkT wrT noLp parts storeA

section
variable {t : TypeId} {k : IntKind} {a b : Int} {c : Bool}
@[simp] theorem norm_int : norm P t (.int k a) = some (.int k a) := nrfl rfl
@[simp] theorem norm_bool {b} : norm P t (.bool b) = some (.bool b) := nrfl rfl
@[simp] theorem norm_str {s} : norm P t (.str s) = some (.str s) := nrfl rfl
@[simp] theorem norm_agg {s} : norm P t (.agg s) = some (.agg s) := nrfl rfl
@[simp] theorem norm_ex {e n xs} : norm P t (.sl (.ex e n) xs) = some (.sl (.ex e n) xs) := nrfl rfl
@[simp] theorem norm_sh {xs} : norm P t (.sl .sh xs) = some (.sl .sh xs) := nrfl rfl
@[simp] theorem norm_fn {f xs} : norm P t (.fn f xs) = some (.fn f xs) := nrfl rfl
@[simp] theorem norm_fb {f xs} : norm P t (.fb f xs) = some (.fb f xs) := nrfl rfl
@[simp] theorem norm_ifc {f xs} : norm P t (.ifc f xs) = some (.ifc f xs) := nrfl rfl
@[simp] theorem norm_nili : norm P t .nili = some .nili := nrfl rfl
@[simp] theorem norm_nilf : norm P t .nilf = some .nilf := nrfl rfl
@[simp] theorem norm_nilp : norm P t .nilp = some .nilp := nrfl rfl
@[simp] theorem norm_vp {xs i} : norm P t (.vp xs i) = some (.vp xs i) := nrfl rfl
@[simp] theorem norm_lp {xs i} : norm P t (.lp xs i) = some (.lp xs i) := nrfl rfl
@[simp] theorem norm_gp {xs i sh} : norm P t (.gp xs i sh) = some (.gp xs i sh) := nrfl rfl
@[simp] theorem norm_ms {a1 a2 a3 a4 a5} : norm P t (.ms a1 a2 a3 a4 a5) = some (.ms a1 a2 a3 a4 a5) := nrfl rfl
@[simp] theorem norm_ifx : norm P t .ifx = some .ifx := nrfl rfl
@[simp] theorem norm_any : norm P t .any = some .any := nrfl rfl
@[simp] theorem norm_tup {xs} : norm P t (.tup xs) = some (.tup xs) := nrfl rfl
@[simp] theorem norm_nil {xs} : norm P t (.sl .nil xs) = match elemA P t with
    | some e => bnd (sizeA P e) fun n => some (.sl (.ex e n) xs)
    | none => some (.sl .nil xs) := rfl

@[simp] theorem bin_add : bin P .add c t (.int k a) (.int k b) = some (.int k (k.wrap (a + b))) := by simp [bin, binI]
@[simp] theorem bin_sub : bin P .sub c t (.int k a) (.int k b) = some (.int k (k.wrap (a - b))) := by simp [bin, binI]
@[simp] theorem bin_mul : bin P .mul c t (.int k a) (.int k b) = some (.int k (k.wrap (a * b))) := by simp [bin, binI]
@[simp] theorem bin_quo : bin P .quo c t (.int k a) (.int k b) = if b = 0 then none else some (.int k (k.wrap (a.tdiv b))) := by simp [bin, binI]
@[simp] theorem bin_rem : bin P .rem c t (.int k a) (.int k b) = if b = 0 then none else some (.int k (a.tmod b)) := by simp [bin, binI]
@[simp] theorem bin_and : bin P .and c t (.int k a) (.int k b) = some (.int k (bits .and k a b)) := by simp [bin, binI]
@[simp] theorem bin_or : bin P .or c t (.int k a) (.int k b) = some (.int k (bits .or k a b)) := by simp [bin, binI]
@[simp] theorem bin_xor : bin P .xor c t (.int k a) (.int k b) = some (.int k (bits .xor k a b)) := by simp [bin, binI]
@[simp] theorem bin_andNot : bin P .andNot c t (.int k a) (.int k b) = some (.int k (bits .andNot k a b)) := by simp [bin, binI]
@[simp] theorem bin_lss : bin P .lss c t (.int k a) (.int k b) = some (.bool (decide (a < b))) := by simp [bin, binI]
@[simp] theorem bin_leq : bin P .leq c t (.int k a) (.int k b) = some (.bool (decide (a ≤ b))) := by simp [bin, binI]
@[simp] theorem bin_gtr : bin P .gtr c t (.int k a) (.int k b) = some (.bool (decide (b < a))) := by simp [bin, binI]
@[simp] theorem bin_geq : bin P .geq c t (.int k a) (.int k b) = some (.bool (decide (b ≤ a))) := by simp [bin, binI]
@[simp] theorem bin_eql : bin P .eql c t (.int k a) (.int k b) = some (.bool (decide (a = b))) := by simp [bin, binI]; rfl
@[simp] theorem bin_neq : bin P .neq c t (.int k a) (.int k b) = some (.bool (decide (a ≠ b))) := by simp [bin, binI]; rw [Bool.eq_iff_iff]; simp
@[simp] theorem bin_shl {k'} : bin P .shl c t (.int k a) (.int k' b) = if b < 0 then none else some (.int k (k.wrap (a * 2 ^ min b.toNat k.bits))) := by simp only [bin]
@[simp] theorem bin_shr {k'} : bin P .shr c t (.int k a) (.int k' b) = if b < 0 then none else some (.int k (a.fdiv (2 ^ min b.toNat k.bits))) := by simp only [bin]
@[simp] theorem bin_str_add {x y} : bin P .add c t (.str x) (.str y) = need (x.length + y.length ≤ most) (some (.str (x ++ y))) := nrfl rfl
@[simp] theorem bin_str_eql {x y} : bin P .eql c t (.str x) (.str y) = some (.bool (x == y)) := nrfl rfl
@[simp] theorem bin_str_neq {x y} : bin P .neq c t (.str x) (.str y) = some (.bool !(x == y)) := nrfl rfl
@[simp] theorem bin_str_lss {x y} : bin P .lss c t (.str x) (.str y) = some (.bool (Op.bytesLess x y)) := nrfl rfl
@[simp] theorem bin_str_leq {x y} : bin P .leq c t (.str x) (.str y) = some (.bool (Op.bytesLess x y || x == y)) := nrfl rfl
@[simp] theorem bin_str_gtr {x y} : bin P .gtr c t (.str x) (.str y) = some (.bool !(Op.bytesLess x y || x == y)) := nrfl rfl
@[simp] theorem bin_str_geq {x y} : bin P .geq c t (.str x) (.str y) = some (.bool !(Op.bytesLess x y)) := nrfl rfl
@[simp] theorem bin_agg_eql {x y} : bin P .eql c t (.agg x) (.agg y) = bnd (eqShape P t) fun ks => bnd (eqCs ks x y) fun b => some (.bool b) := nrfl rfl
@[simp] theorem bin_agg_neq {x y} : bin P .neq c t (.agg x) (.agg y) = bnd (eqShape P t) fun ks => bnd (eqCs ks x y) fun b => some (.bool !b) := nrfl rfl
@[simp] theorem bin_eql_nili : bin P .eql c t .nili .nili = if isIface P t && (c || !true) then some (.bool true) else none := nrfl rfl
@[simp] theorem bin_eql_nili_ifc {u v} : bin P .eql c t (.ifc u v) .nili = if isIface P t && (c || !false) then some (.bool false) else none := nrfl rfl
@[simp] theorem bin_eql_nili_ifx : bin P .eql c t .ifx .nili = if isIface P t && (c || !false) then some (.bool false) else none := nrfl rfl
@[simp] theorem bin_neq_nili : bin P .neq c t .nili .nili = if isIface P t && (c || !true) then some (.bool !true) else none := nrfl rfl
@[simp] theorem bin_neq_nili_ifc {u v} : bin P .neq c t (.ifc u v) .nili = if isIface P t && (c || !false) then some (.bool !false) else none := nrfl rfl
@[simp] theorem bin_neq_nili_ifx : bin P .neq c t .ifx .nili = if isIface P t && (c || !false) then some (.bool !false) else none := nrfl rfl
@[simp] theorem bin_eql_nilf : bin P .eql c t .nilf .nilf = if isFuncT P t then some (.bool true) else none := nrfl rfl
@[simp] theorem bin_eql_nilf_fn {u v} : bin P .eql c t (.fn u v) .nilf = if isFuncT P t then some (.bool false) else none := nrfl rfl
@[simp] theorem bin_neq_nilf : bin P .neq c t .nilf .nilf = if isFuncT P t then some (.bool !true) else none := nrfl rfl
@[simp] theorem bin_neq_nilf_fn {u v} : bin P .neq c t (.fn u v) .nilf = if isFuncT P t then some (.bool !false) else none := nrfl rfl
@[simp] theorem bin_eql_nils {o xs ys} : bin P .eql c t (.sl o xs) (.sl .nil ys) = bnd (isNilS (.sl o xs)) fun b => if (elemA P t).isSome then some (.bool b) else none := nrfl rfl
@[simp] theorem bin_neq_nils {o xs ys} : bin P .neq c t (.sl o xs) (.sl .nil ys) = bnd (isNilS (.sl o xs)) fun b => if (elemA P t).isSome then some (.bool !b) else none := nrfl rfl
@[simp] theorem bin_eql_nils_ms {a1 a2 a3 a4 a5 ys} : bin P .eql c t (.ms a1 a2 a3 a4 a5) (.sl .nil ys) = if (elemA P t).isSome then some (.bool false) else none := nrfl rfl
@[simp] theorem bin_neq_nils_ms {a1 a2 a3 a4 a5 ys} : bin P .neq c t (.ms a1 a2 a3 a4 a5) (.sl .nil ys) = if (elemA P t).isSome then some (.bool !false) else none := nrfl rfl
@[simp] theorem bin_bool_eql {x y} : bin P .eql c t (.bool x) (.bool y) = need (P.underlying t = some .bool) (some (.bool (x == y))) := nrfl rfl
@[simp] theorem bin_bool_neq {x y} : bin P .neq c t (.bool x) (.bool y) = need (P.underlying t = some .bool) (some (.bool !(x == y))) := nrfl rfl
@[simp] theorem un_not {x} : un .not (.bool x) = some (.bool !x) := nrfl rfl
@[simp] theorem un_neg : un .neg (.int k a) = some (.int k (k.wrap (0 - a))) := nrfl rfl
@[simp] theorem un_xor : un .xor (.int k a) = some (.int k (bits .xor k (if k.signed then -1 else k.max) a)) := nrfl rfl
end
attribute [simp ↓] EXEC_skip EXEC_ret EXEC_exit EXEC_cond EXEC_seq EXEC_block
@[simp ↓] theorem EXEC_region' {i l d} : EXEC P h C (.region i (List.toArray l) d) st = strict (clean0 h st) fun st => bnd (regionA P h C l d st) fun st => some (.normal, clean1 h st) := by rw [EXEC_region]; rfl

def structA (P : Program) (t : TypeId) : Option (List (Nat × Nat)) :=
  match P.underlying t with
  | some (.struct fs) => placesA P fs.toList
  | _ => none
/-- the places of a literal's parts -/
def buildPl (P : Program) (t : TypeId) : Option (Nat → Option (Nat × Nat)) :=
  match P.underlying t with
  | some (.struct fs) => bnd (placesA P fs.toList) fun pl => some fun i => pl[i]?
  | some (.array _ e) => bnd (sizeA P e) fun sz => some fun i => some (i * sz, sz)
  | _ => none
@[simp ↓] theorem step_build {d : Option Tmp} {t : TypeId} {ps : Array (Nat × Operand)} {T : TypeId} {pos : String} {af : Array Edge} {g : Option (Nat × Bool)} :
    stepOp P h C ⟨d, .build t ps, T, pos, af, g⟩ st = ms0 (isMs h d) (bnd (zeroA P t) fun z => bnd (parts st ps.toList) fun l => bnd (buildPl P t) fun pl => bnd (fillA pl z.cells l) fun cs => some (st.put d (.agg cs))) := by
  cases hm : isMs h d
  · rw [ms0_false]
    simp only [stepOp, hm, Bool.false_eq_true, if_false, opVal, opPure, bnd_assoc, bnd_some, buildPl]
    cases P.underlying t with
    | none => rfl
    | some dsc => cases dsc <;> first | rfl | (simp only [bnd_assoc, bnd_some])
  · rw [ms0_true]; simp only [stepOp, hm, if_true]; rfl
attribute [simp] fillA setA

/-! What a run ends in. -/
def Post (o : Option (Ex × St)) (K : Ex → St → Prop) : Prop := ∃ e st, o = some (e, st) ∧ K e st
@[congr] theorem Post_congr {x y : Option (Ex × St)} {K : Ex → St → Prop} (e : x = y) : Post x K = Post y K := by rw [e]
@[simp] theorem Post_some {e : Ex} {s : St} {K : Ex → St → Prop} : Post (some (e, s)) K ↔ K e s := by
  constructor
  · rintro ⟨e', s', h, k⟩
    simp only [Option.some.injEq, Prod.mk.injEq] at h
    obtain ⟨rfl, rfl⟩ := h
    exact k
  · exact fun k => ⟨e, s, rfl, k⟩
@[simp] theorem Post_none {K : Ex → St → Prop} : Post none K ↔ False := by
  constructor
  · rintro ⟨_, _, h, _⟩; cases h
  · exact False.elim
attribute [simp ↓] Post_some Post_none
def thenK (k : St → Option (Ex × St)) (K : Ex → St → Prop) : Ex → St → Prop
  | .normal, st => Post (k st) K
  | e, st => K e st
def blkK (id : Nat) (K : Ex → St → Prop) : Ex → St → Prop
  | .exit id', st => if id' = id then K .normal st else K (.exit id') st
  | e, st => K e st
@[congr] theorem thenK_congr {k : St → Option (Ex × St)} {K : Ex → St → Prop} {e e' : Ex} {s s' : St} (h1 : e = e') (h2 : s = s') : thenK k K e s = thenK k K e' s' := by rw [h1, h2]
@[congr] theorem blkK_congr {i : Nat} {K : Ex → St → Prop} {e e' : Ex} {s s' : St} (h1 : e = e') (h2 : s = s') : blkK i K e s = blkK i K e' s' := by rw [h1, h2]
@[simp ↓] theorem thenK_normal {k : St → Option (Ex × St)} {K : Ex → St → Prop} {s : St} : thenK k K .normal s ↔ Post (k s) K := Iff.rfl
@[simp ↓] theorem thenK_ret {k : St → Option (Ex × St)} {K : Ex → St → Prop} {s : St} : thenK k K .ret s ↔ K .ret s := Iff.rfl
@[simp ↓] theorem thenK_exit {k : St → Option (Ex × St)} {K : Ex → St → Prop} {s : St} {i} : thenK k K (.exit i) s ↔ K (.exit i) s := Iff.rfl
@[simp ↓] theorem blkK_normal {i} {K : Ex → St → Prop} {s : St} : blkK i K .normal s ↔ K .normal s := Iff.rfl
@[simp ↓] theorem blkK_ret {i} {K : Ex → St → Prop} {s : St} : blkK i K .ret s ↔ K .ret s := Iff.rfl
@[simp ↓] theorem blkK_exit {i j} {K : Ex → St → Prop} {s : St} : blkK i K (.exit j) s ↔ if j = i then K .normal s else K (.exit j) s := Iff.rfl
@[simp ↓] theorem Post_thenE {x : Option (Ex × St)} {k : St → Option (Ex × St)} {K : Ex → St → Prop} : Post (thenE x k) K ↔ Post x (thenK k K) := by
  cases x with
  | none => simp
  | some p => obtain ⟨e, s⟩ := p; cases e <;> simp
@[simp ↓] theorem Post_blkE {x : Option (Ex × St)} {i} {K : Ex → St → Prop} : Post (blkE i x) K ↔ Post x (blkK i K) := by
  cases x with
  | none => constructor <;> rintro ⟨_, _, h, _⟩ <;> cases h
  | some p => obtain ⟨e, s⟩ := p; cases e <;> simp; split <;> simp

def roundK {α : Type} (h : Hint) (id : Nat) (I : α → St) (Pr : α → Prop) (μ : α → Nat) (x : α) (K : Ex → St → Prop) : Ex → St → Prop
  | .normal, st => ∃ y, Pr y ∧ μ y < μ x ∧ head h id st = I y
  | e, st => K e st
@[congr] theorem roundK_congr {α : Type} {id : Nat} {I : α → St} {Pr : α → Prop} {μ : α → Nat} {x : α} {K : Ex → St → Prop} {e e' : Ex} {s s' : St} (h1 : e = e') (h2 : s = s') : roundK h id I Pr μ x K e s = roundK h id I Pr μ x K e' s' := by rw [h1, h2]
@[simp ↓] theorem roundK_normal {α : Type} {id : Nat} {I : α → St} {Pr : α → Prop} {μ : α → Nat} {x : α} {K : Ex → St → Prop} {s : St} : roundK h id I Pr μ x K .normal s ↔ ∃ y, Pr y ∧ μ y < μ x ∧ head h id s = I y := Iff.rfl
@[simp ↓] theorem roundK_ret {α : Type} {id : Nat} {I : α → St} {Pr : α → Prop} {μ : α → Nat} {x : α} {K : Ex → St → Prop} {s : St} : roundK h id I Pr μ x K .ret s ↔ K .ret s := Iff.rfl
@[simp ↓] theorem roundK_exit {α : Type} {id : Nat} {I : α → St} {Pr : α → Prop} {μ : α → Nat} {x : α} {K : Ex → St → Prop} {s : St} {i} : roundK h id I Pr μ x K (.exit i) s ↔ K (.exit i) s := Iff.rfl

/-- a loop: its head's states, what holds of them, what falls -/
theorem Post_loop {α : Type} (I : α → St) (Pr : α → Prop) (μ : α → Nat) (a : α) {c : Code} {s : St} {K : Ex → St → Prop} (h0 : head h (rid c) s = I a) (hp : Pr a)
    (hs : ∀ x, Pr x → Post (EXEC P h C c (I x)) (roundK h (rid c) I Pr μ x K)) : Post (EXEC P h C (.loop c) s) K := by
  have key : ∀ n x s, μ x = n → Pr x → head h (rid c) s = I x → Post (EXEC P h C (.loop c) s) K := by
    intro n
    induction n using Nat.strongRecOn with
    | _ n ih =>
      intro x s hn hx hh
      rw [EXEC_loop, hh, Post_thenE]
      obtain ⟨e, s1, h1, h2⟩ := hs x hx
      refine ⟨e, s1, h1, ?_⟩
      cases e with
      | normal => obtain ⟨y, hy, hlt, hd⟩ := h2; exact ih (μ y) (hn ▸ hlt) y s1 rfl hy hd
      | _ => exact h2
  exact key _ a s rfl hp h0

/-- a function by its own code -/
theorem EV_post {H : FuncId → Hint} {T : Table} {f : FuncId} {fn : Func} {c : Code} {as : List AV} {s : List (List AV)} {r : AV × List (List AV)} (hT : T f = none) (hf : P.funcs[AI.base f]? = some fn) (hb : fn.body = some c)
    (hn : as.length ≤ fn.ntmps) (hc : codeOk (H f) fn.ntmps c = true) (hg : (fn.name == "runtime.NumGoroutine") = false)
    (hp : Post (EXEC P (H f) (EV P H T) c ⟨params 0 as, [], s⟩) fun e st => finE P (H f) s fn (some (e, st)) = some r) (h9 : f < 900000 := by decide) : EV P H T f as s = some r := by
  rw [EV_body hT h9 hf]
  unfold body
  rw [hb]
  simp only [bnd]
  rw [if_pos ⟨hn, hc, hg⟩]
  obtain ⟨e, st, h1, h2⟩ := hp
  rw [h1]; exact h2
end

theorem wrap64 {n : Int} (h : -9223372036854775808 ≤ n ∧ n ≤ 9223372036854775807) : IntKind.i64.wrap n = n := by
  simp only [IntKind.wrap, IntKind.signed, IntKind.bits]; simp; split <;> omega
theorem wrapU8 {n : Int} (h : 0 ≤ n ∧ n < 256) : IntKind.u8.wrap n = n := by
  simp only [IntKind.wrap, IntKind.signed, IntKind.bits]; simp; omega
theorem wrapU64 {n : Int} (h : 0 ≤ n ∧ n < 18446744073709551616) : IntKind.u64.wrap n = n := by
  simp only [IntKind.wrap, IntKind.signed, IntKind.bits]; simp; omega
end Go.AI
end
section
/- The evaluation by rewriting: boxes of slices, ends of calls. No program is in sight. -/
namespace Go.AI
set_option linter.unusedVariables false

section
variable {P : Program} {h : Hint} {C : Oracle} {st : St} {d : Option Tmp} {n : Nat} {T : TypeId} {pos : String} {af : Array Edge} {g : Option (Nat × Bool)}

@[simp] theorem isMs_some {n : Nat} : isMs h (some n) = mem h.msd n := nrfl rfl
@[simp] theorem isMs_none : isMs h none = false := nrfl rfl
@[simp] theorem isGlob_some {n : Nat} : isGlob h (some n) = mem h.glob n := nrfl rfl
@[simp] theorem isGlob_none : isGlob h none = false := nrfl rfl
attribute [simp] conv readCells fieldAddrA indexAddrA indexA sliceA appendA srcA
attribute [simp] msOp msLoad msSlice rootT msConv msAppend msCopy srcM vary
attribute [simp] endA freezeT freezeL freeze1 weakT weak isNilS isNilP isCst

@[simp] theorem flat_nil : flat [] = [] := nrfl rfl
@[simp] theorem flat_cons {x : AV} {r : List AV} : flat (x :: r) = x.cells ++ flat r := nrfl rfl
theorem flat_map {α : Type} (f : α → AV) (hf : ∀ x, (f x).cells = [f x]) (l : List α) : flat (l.map f) = l.map f := by
  induction l with
  | nil => rfl
  | cons x r ih => rw [List.map_cons, flat_cons, hf, ih]; rfl
@[simp] theorem flat_u8 {l : List UInt8} : flat (l.map .u8) = l.map .u8 := flat_map _ (fun _ => rfl) l
@[simp] theorem flat_str {l : List (List UInt8)} : flat (l.map .str) = l.map .str := flat_map _ (fun _ => rfl) l
@[simp] theorem flat_int {k : IntKind} {l : List Int} : flat (l.map (.int k)) = l.map (.int k) := flat_map _ (fun _ => rfl) l
@[simp] theorem flat_rep_int {k : IntKind} {m : Int} {n : Nat} : flat (List.replicate n (.int k m)) = List.replicate n (.int k m) := by
  induction n with
  | zero => rfl
  | succ n ih => rw [List.replicate_succ, flat_cons, ih]; rfl
@[simp] theorem flat_rep_str {m : List UInt8} {n : Nat} : flat (List.replicate n (.str m)) = List.replicate n (.str m) := by
  induction n with
  | zero => rfl
  | succ n ih => rw [List.replicate_succ, flat_cons, ih]; rfl
theorem map_dem {α : Type} (f : α → AV) (hf : ∀ x, dem (f x) = f x) (l : List α) : (l.map f).map dem = l.map f := by
  rw [List.map_map]; exact List.map_congr_left fun x _ => hf x
@[simp high] theorem map_dem_u8 {l : List UInt8} : (l.map AV.u8).map dem = l.map .u8 := map_dem _ (fun _ => rfl) l
@[simp high] theorem map_dem_str {l : List (List UInt8)} : (l.map AV.str).map dem = l.map .str := map_dem _ (fun _ => rfl) l
@[simp high] theorem map_dem_int {k : IntKind} {l : List Int} : (l.map (AV.int k)).map dem = l.map (.int k) := map_dem _ (fun _ => rfl) l

/-- by the kind of the elements -/
def els2 (g : Bool) (m sz : Nat) (cs : List AV) (off n : Nat) : Option (List AV) := if m = sz ∧ 0 < sz ∧ (g = true ∨ sz = 1) ∧ off + n * sz ≤ cs.length then
    some ((List.range n).map fun i => elt g (((cs.drop (off + i * sz)).take sz).map dem)) else none
@[simp] theorem readEls_els2 {ty sz : Nat} {cs : List AV} {off n : Nat} : readEls P ty sz cs off n = bnd (isAggA P ty) fun g => bnd (sizeA P ty) fun m => els2 g m sz cs off n := nrfl rfl
@[simp] theorem els2_one {cs : List AV} {off n : Nat} : els2 false 1 1 cs off n = if off + n ≤ cs.length then some (((cs.drop off).take n).map dem) else none := by
  unfold els2
  by_cases hc : off + n ≤ cs.length
  · rw [if_pos hc, if_pos (by simp; omega)]
    congr 1
    apply List.ext_getElem?
    intro i
    simp only [List.getElem?_map]
    by_cases hi : i < n
    · rw [List.getElem?_range hi, List.getElem?_take, if_pos hi, List.getElem?_drop]
      have hlt : off + i * 1 < cs.length := by omega
      rw [Option.map_some, List.drop_eq_getElem_cons hlt, List.getElem?_eq_getElem (by omega)]
      simp only [Nat.mul_one, List.take_succ_cons, List.take_zero, List.map_cons, List.map_nil, elt, Option.map_some]
    · rw [List.getElem?_eq_none (by simpa using Nat.le_of_not_lt hi), List.getElem?_eq_none (by simp; omega)]; rfl
  · rw [if_neg hc, if_neg (by simp; omega)]
@[simp] theorem els2_agg {m sz : Nat} {cs : List AV} {off n : Nat} : els2 true m sz cs off n = if m = sz ∧ 0 < sz ∧ off + n * sz ≤ cs.length then some ((List.range n).map fun i => .agg (((cs.drop (off + i * sz)).take sz).map dem)) else none := by
  unfold els2
  simp only [true_or, true_and]
  rfl

section
variable {sz : Nat} {a b : List AV} {x : AV}
@[simp] theorem allCells_nil : allCells sz [] ↔ True := ⟨fun _ => trivial, fun _ x hx => by cases hx⟩
@[simp] theorem allCells_cons : allCells sz (x :: a) ↔ (x.cells.length = sz ∧ ∀ c ∈ x.cells, plain c = true) ∧ allCells sz a := by
  simp only [allCells, List.forall_mem_cons]
@[simp] theorem allCells_app : allCells sz (a ++ b) ↔ allCells sz a ∧ allCells sz b := by simp only [allCells, List.forall_mem_append]
@[simp] theorem allCells_u8 {l : List UInt8} : allCells 1 (l.map .u8) ↔ True := ⟨fun _ => trivial, fun _ x hx => by
  obtain ⟨b, _, rfl⟩ := List.mem_map.1 hx; exact ⟨rfl, fun c hc => by simp [AV.u8, AV.cells] at hc; subst hc; rfl⟩⟩
@[simp] theorem allCells_str {l : List (List UInt8)} : allCells 1 (l.map .str) ↔ True := ⟨fun _ => trivial, fun _ x hx => by
  obtain ⟨b, _, rfl⟩ := List.mem_map.1 hx; exact ⟨rfl, fun c hc => by simp [AV.cells] at hc; subst hc; rfl⟩⟩
@[simp] theorem allCells_int {k : IntKind} {l : List Int} : allCells 1 (l.map (.int k)) ↔ True := ⟨fun _ => trivial, fun _ x hx => by
  obtain ⟨b, _, rfl⟩ := List.mem_map.1 hx; exact ⟨rfl, fun c hc => by simp [AV.cells] at hc; subst hc; rfl⟩⟩
@[simp] theorem allCells_byl {l : List (List UInt8)} : allCells 1 (l.map fun s => .sl .sh (s.map .u8)) ↔ True := ⟨fun _ => trivial, fun _ x hx => by
  obtain ⟨b, _, rfl⟩ := List.mem_map.1 hx; exact ⟨rfl, fun c hc => by simp [AV.cells] at hc; subst hc; rfl⟩⟩
end
attribute [simp] AV.u8 plain cell1 quiet

/-! The list of boxes: those that came, and those behind them. -/
section
variable {σ l : List (List AV)} {c x : List AV} {k : Nat}
@[simp] theorem app_get0 : (σ ++ c :: l)[σ.length]? = some c := by simp
@[simp] theorem app_getk : (σ ++ l)[σ.length + k]? = l[k]? := by rw [List.getElem?_append_right (by omega)]; congr 1; omega
@[simp] theorem app_set0 : (σ ++ c :: l).set σ.length x = σ ++ x :: l := by simp
@[simp] theorem app_setk : (σ ++ l).set (σ.length + k) x = σ ++ l.set k x := by rw [List.set_append_right _ _ (by omega)]; congr 2; omega
@[simp] theorem lowS_app : lowS σ (σ ++ l) ↔ True := ⟨fun _ => trivial, fun _ b hb => .inl (by rw [List.getElem?_append_left hb])⟩
@[simp] theorem lowS_self : lowS σ σ ↔ True := ⟨fun _ => trivial, fun _ b hb => .inl rfl⟩
@[simp] theorem take_app : (σ ++ l).take σ.length = σ := by simp
@[simp] theorem take_self : σ.take σ.length = σ := by simp
@[simp] theorem take_set {b : Nat} : (σ.set b x).take σ.length = σ.set b x := by rw [List.take_of_length_le (by simp)]
@[simp] theorem take_set_app {b : Nat} : (σ.set b x ++ l).take σ.length = σ.set b x := by
  rw [show σ.length = (σ.set b x).length by simp]; exact List.take_left
end
section
variable {n m : Nat}
@[simp] theorem low_gp {b i sh} : low n (.gp b i sh) ↔ b < n := Iff.rfl
@[simp] theorem low_ms {a1 a2 a3 a4 a5} : low n (.ms a1 a2 a3 a4 a5) ↔ a3 < n := Iff.rfl
@[simp] theorem low_sl {o xs} : low n (.sl o xs) ↔ lowL n xs := Iff.rfl
@[simp] theorem low_agg {xs} : low n (.agg xs) ↔ lowL n xs := Iff.rfl
@[simp] theorem low_tup {xs} : low n (.tup xs) ↔ lowL n xs := Iff.rfl
@[simp] theorem low_vp {xs i} : low n (.vp xs i) ↔ lowL n xs := Iff.rfl
@[simp] theorem low_fn {f xs} : low n (.fn f xs) ↔ lowL n xs := Iff.rfl
@[simp] theorem low_fb {f xs} : low n (.fb f xs) ↔ lowL n xs := Iff.rfl
@[simp] theorem low_ifc {t v} : low n (.ifc t v) ↔ low n v := Iff.rfl
@[simp] theorem low_int {k v} : low n (.int k v) ↔ True := Iff.rfl
@[simp] theorem low_bool {v} : low n (.bool v) ↔ True := Iff.rfl
@[simp] theorem low_str {v} : low n (.str v) ↔ True := Iff.rfl
@[simp] theorem low_u8 {v} : low n (.u8 v) ↔ True := Iff.rfl
@[simp] theorem low_nilp : low n .nilp ↔ True := Iff.rfl
@[simp] theorem low_nilf : low n .nilf ↔ True := Iff.rfl
@[simp] theorem low_nili : low n .nili ↔ True := Iff.rfl
@[simp] theorem low_ifx : low n .ifx ↔ True := Iff.rfl
@[simp] theorem low_any : low n .any ↔ True := Iff.rfl
@[simp] theorem lowL_nil : lowL n [] ↔ True := Iff.rfl
@[simp] theorem lowL_cons {x r} : lowL n (x :: r) ↔ low n x ∧ lowL n r := Iff.rfl
@[simp] theorem lowL_append {a b : List AV} : lowL n (a ++ b) ↔ lowL n a ∧ lowL n b := by
  induction a with
  | nil => simp
  | cons x r ih => simp only [List.cons_append, lowL_cons, ih, and_assoc]
@[simp] theorem lowL_map {α : Type} {f : α → AV} {l : List α} : lowL n (l.map f) ↔ ∀ x ∈ l, low n (f x) := by
  induction l with
  | nil => simp
  | cons x r ih => simp only [List.map_cons, lowL_cons, ih, List.forall_mem_cons]
@[simp] theorem lowL_replicate {x : AV} : lowL n (List.replicate m x) ↔ m = 0 ∨ low n x := by
  induction m with
  | zero => simp
  | succ m ih => rw [List.replicate_succ, lowL_cons, ih]; simp; intro hx; exact .inr hx
end
attribute [simp] eqCs eqSc
end
theorem dT {p : Prop} [Decidable p] (h : p) : decide p = true := decide_eq_true h
theorem dF {p : Prop} [Decidable p] (h : ¬ p) : decide p = false := decide_eq_false h
section
variable {P : Program} {h : Hint} {C : Oracle} {st : St}
end
end Go.AI
end
section
/- A statement's own call. No program is in sight. -/
namespace Go.AI
open Go.RowKit
set_option linter.unusedVariables false

def gh0 : Gh := { fr := fun _ => 0, bx := fun _ => none }

theorem Sim.start {w : World} {as : List AV} {vs : Array Value} (hsz : vs.size = as.length)
    (hv : ∀ (j : Nat) (c : AV), as[j]? = some c → Rep w.heap.size gh0 w (vs.getD j undef) c ∧ pers c = true ∧ quiet c = true) :
    Sim w.heap.size (fun _ => False) gh0 w vs.size gh0 (fun _ => none) ⟨vs, []⟩ w ⟨params 0 as, [], []⟩ := by
  have hlook : ∀ i v, look (params 0 as) i = some v → as[i]? = some v := fun i v e => by rw [look_params] at e; simpa using e
  have hno : ∀ l k, own ⟨vs, []⟩ (fun _ => none) gh0 w ⟨params 0 as, [], []⟩ l ≠ some k := by
    intro l k e
    cases l with
    | t i j =>
      simp only [own] at e
      cases hq : look (params 0 as) i with
      | none => rw [hq] at e; cases e
      | some v =>
        rw [hq] at e
        have := hv i v (hlook i v hq)
        cases j with
        | none => simp only [Option.bind_some, ownV] at e; rw [exBlk_quiet this.2.2] at e; cases e
        | some j => cases v <;> first | (simp [ownV] at e; done) | simp [pers] at this
    | l d => simp [own, look] at e
    | lc d j => simp [own, look, ownB] at e
    | g b => simp [own] at e
    | gc b j => simp [own, ownB] at e
  constructor
  · rfl
  · rfl
  · exact Ext.refl _ _ _ _
  · intro i v e
    have := hv i v (hlook i v e)
    have ht : Tk1 w.heap.size gh0 w (vs.getD i undef) v := Tk1_quiet this.2.2
    cases v with
    | lp d i => simp [pers] at this
    | tup xs => simp [pers] at this
    | _ => exact ⟨this.1, ht⟩
  · intro d cs e; simp [look] at e
  · intro b cs blk e; simp at e
  · intro b _; rfl
  · intro l l' k e; exact absurd e (hno l k)
  · intro l k e; exact absurd e (hno l k)
  · intro b _; rfl
  · exact Nat.le_refl _
  · rw [keys_params]; exact List.nodup_range'
  · intro b hb; simp at hb

/-- what the evaluation says, the program does; nothing that was there is changed -/
theorem top {P : Program} (hm : P.follows .mixedOrders = true) {H : FuncId → Hint} {T : Table} {f : FuncId} {as : List AV} {vs : Array Value} {w : World} {b : Bool} {s' : List (List AV)} (hfb : AI.base f = f) (hT : TableOk P w.heap.size w T)
    (hsz : vs.size = as.length) (hv : ∀ (j : Nat) (c : AV), as[j]? = some c → Rep w.heap.size gh0 w (vs.getD j undef) c ∧ pers c = true ∧ quiet c = true)
    (e : EV P H T f as [] = some (.bool b, s')) : Calls P f vs w fun e w' => e = .returned (.bool b) ∧ Below w.heap.size w w' := by
  obtain ⟨_, h⟩ := EV_sound hT (fun _ _ => draw_sound hm) _ _ _ _ _ e
  rw [hfb] at h
  refine (h (fun _ => False) gh0 w vs hsz (Below.refl _ _) (Sim.start hsz hv)).mono fun e w' hr => ?_
  obtain ⟨v, μ', rfl, hs⟩ := hr
  refine ⟨?_, hs.ext.below⟩
  have := (hs.tmp 0 (.bool b) (by simp [look])).1
  generalize hq : (⟨#[v], []⟩ : Act).tmps.getD 0 undef = u at this
  have hu : u = v := by rw [← hq]; rfl
  subst hu
  cases this
  rfl
end Go.AI
end
section
/- Functions known by contracts: what they return hangs on no memory. No program is in sight. -/
namespace Go.AI
open Go.RowKit
set_option linter.unusedVariables false

theorem belowHeap {n : Nat} {w w' : World} (h : Below n w w') {b : Nat} (hb : b < n) : w'.heap[b]? = w.heap[b]? := h.block b hb

/-- a value that is told in any memory -/
structure Told (v : Value) (r : AV) : Prop where
  full : ∀ (B : Nat) (μ : Gh) (w : World), Full B μ (fun _ => none) w v r
  own : ∀ j, ownV v r j = none
  nl : ∀ d i, r ≠ .lp d i
theorem Told.int (k : IntKind) (n : Int) : Told (.int k n) (.int k n) := ⟨fun _ _ _ => ⟨.int _ _, trivial⟩, fun j => by cases j <;> rfl, by simp⟩
theorem Told.bool (b : Bool) : Told (.bool b) (.bool b) := ⟨fun _ _ _ => ⟨.bool _, trivial⟩, fun j => by cases j <;> rfl, by simp⟩
theorem Told.str (l : List UInt8) : Told (.string ⟨l.toArray⟩) (.str l) := ⟨fun _ _ _ => ⟨by have := Rep.str (B := ‹_›) (μ := ‹_›) (w := ‹_›) ⟨l.toArray⟩; simpa using this, trivial⟩, fun j => by cases j <;> rfl, by simp⟩
theorem Told.intErr (n : Int) (t : TypeId) (p : Value) : Told (.tuple #[.int .i64 n, .iface t p]) (.tup [.int .i64 n, .ifx]) :=
  ⟨fun B μ w => ⟨.tup _ _ rfl fun j c hc => by
      match j, hc with
      | 0, hc => simp at hc; subst hc; exact .int _ _
      | 1, hc => simp at hc; subst hc; exact .ifx _ _
      | j + 2, hc => simp at hc, fun j c hc => by
      match j, hc with
      | 0, hc => simp at hc; subst hc; trivial
      | 1, hc => simp at hc; subst hc; trivial
      | j + 2, hc => simp at hc⟩, fun j => by
      match j with
      | none => rfl
      | some 0 => rfl
      | some 1 => rfl
      | some (j + 2) => rfl, by simp⟩
theorem Told.intNil (n : Int) : Told (.tuple #[.int .i64 n, .nilIface]) (.tup [.int .i64 n, .nili]) :=
  ⟨fun B μ w => ⟨.tup _ _ rfl fun j c hc => by
      match j, hc with
      | 0, hc => simp at hc; subst hc; exact .int _ _
      | 1, hc => simp at hc; subst hc; exact .nili
      | j + 2, hc => simp at hc, fun j c hc => by
      match j, hc with
      | 0, hc => simp at hc; subst hc; trivial
      | 1, hc => simp at hc; subst hc; trivial
      | j + 2, hc => simp at hc⟩, fun j => by
      match j with
      | none => rfl
      | some 0 => rfl
      | some 1 => rfl
      | some (j + 2) => rfl, by simp⟩

theorem ACalls_ext {P : Program} {B : Nat} {W0 : World} {f : FuncId} {as : List AV} {s : List (List AV)} {r : AV}
    (h : ∀ (w : World) (vs : Array Value), vs.size = as.length → Below B W0 w → (∀ (j : Nat) (c : AV), as[j]? = some c → ∃ (μ : Gh), Rep B μ w (vs.getD j undef) c ∨ isTup c = true ∨ ∃ d i, c = .lp d i) →
      Calls P f vs w fun e w' => ∃ v, e = .returned v ∧ Told v r ∧ Below w.heap.size w w') : ACalls P B W0 f as s r s := by
  intro T μ w vs hsz hW hs
  have hlook : ∀ i v, as[i]? = some v → look (params 0 as) i = some v := fun i v e => by rw [look_params]; simpa using e
  refine (h w vs hsz hW fun j c hc => ⟨μ, ?_⟩).mono fun e w' hx => ?_
  · have := hs.tmp j c (hlook j c hc)
    cases c with
    | lp d i => exact .inr (.inr ⟨_, _, rfl⟩)
    | _ => exact .inl this.1
  · obtain ⟨v, rfl, ht, hb⟩ := hx
    have hlt : ∀ b s, w.shape? b = some s → b < w.heap.size := fun b s e => by
      rcases Nat.lt_or_ge b w.heap.size with q | q
      · exact q
      · simp [World.shape?, Array.getElem?_eq_none q] at e
    have x : Ext B (fun _ => False) μ w μ w' :=
      ⟨hb.mono hs.hB, fun b hb' _ => ⟨belowHeap hb hb', rfl⟩, fun b j hb' _ => cell_heap (belowHeap hb hb'), fun b _ => Nat.le_refl _, fun b k e => e,
        fun b s e => by simpa [World.shape?, belowHeap hb (hlt b s e)] using e⟩
    have hsz' := hb.size
    obtain ⟨k1, k2⟩ := hs.grow x (fun _ _ _ h => h) (fun _ _ h => h.elim) (fun b hb => hs.gdom b hb) (fun b hb' => hs.fr0 b (by omega)) (fun b _ => rfl)
    exact ⟨v, μ, rfl, k1.out (.mk' (by have := ht.full B μ w'; exact this) ht.own) ht.nl⟩
/-- a new row of texts -/
theorem ACalls_strs {P : Program} {B : Nat} {W0 : World} {f : FuncId} {as : List AV} {s : List (List AV)} {xs : List (List UInt8)} {t : TypeId} (hx : xs.length ≤ maxLen)
    (h : ∀ (w : World) (vs : Array Value), vs.size = as.length → Below B W0 w → (∀ (j : Nat) (c : AV), as[j]? = some c → ∃ (μ : Gh), Rep B μ w (vs.getD j undef) c ∨ isTup c = true ∨ ∃ d i, c = .lp d i) →
      Calls P f vs w fun e w' => e = .returned (.slice (some ⟨w.heap.size, 0, none⟩) xs.length xs.length) ∧ w' = w.alloc (.cells (xs.map fun l => Value.string ⟨l.toArray⟩).toArray t)) : ACalls P B W0 f as s (.sl (.ex t 1) (xs.map .str)) s := by
  intro T μ w vs hsz hW hs
  have hlook : ∀ i v, as[i]? = some v → look (params 0 as) i = some v := fun i v e => by rw [look_params]; simpa using e
  refine (h w vs hsz hW fun j c hc => ⟨μ, ?_⟩).mono fun e w' hx' => ?_
  · have := hs.tmp j c (hlook j c hc)
    cases c with
    | lp d i => exact .inr (.inr ⟨_, _, rfl⟩)
    | _ => exact .inl this.1
  · obtain ⟨rfl, rfl⟩ := hx'
    obtain ⟨k1, k2⟩ := hs.fresh (vs := (xs.map fun l => Value.string ⟨l.toArray⟩).toArray) (ty := t) (els := xs.map .str) (sz := 1) (cap := xs.length) (by omega) (by simp) hx (by simp)
      (fun y hy => by obtain ⟨b, _, rfl⟩ := List.mem_map.1 hy; exact ⟨rfl, fun c hc => by simp [AV.cells] at hc; subst hc; rfl⟩)
      (fun i j c hc => by
        rw [List.getElem?_map] at hc
        cases hi : xs[i]? with
        | none => rw [hi] at hc; cases hc
        | some l =>
          rw [hi] at hc
          simp only [Option.map_some, Option.bind_some, AV.cells] at hc
          cases j with
          | zero =>
            simp only [List.getElem?_cons_zero, Option.some.injEq] at hc
            subst hc
            have hv : ((xs.map fun l => Value.string ⟨l.toArray⟩).toArray).getD (i * 1 + 0) undef = .string ⟨l.toArray⟩ := by
              simp only [Nat.mul_one, Nat.add_zero, Array.getD_eq_getD_getElem?, List.getElem?_toArray, List.getElem?_map, hi]; rfl
            rw [hv]
            have := Rep.str (B := B) (μ := μ) (w := w) ⟨l.toArray⟩
            simpa using this
          | succ j => simp at hc)
    refine ⟨_, _, rfl, k1.out ?_ (by simp)⟩
    simpa using k2
end Go.AI
end
section
/- A drawn region, one operation at a time. No program is in sight. -/
namespace Go.AI
set_option linter.unusedVariables false
section
variable {P : Program} {h : Hint} {C : Oracle}
def PostD (x : Option St) (K : St → Prop) : Prop := ∃ s, x = some s ∧ K s
theorem PostD_go {ds : List Nat} {ops r : List Oper} {st : St} {o : Oper} {K : St → Prop} (st1 : St) (hw : wantedA ops o.guard st = some true) (hp : preD h o st = true) (hs : stepOp P h C o st = some st1)
    (hS : allowS h o = true ∨ st1.s = st.s) (hq : postD h ds o st1.t = true) (k : PostD (runD P h C ds ops r st1) K) : PostD (runD P h C ds ops (o :: r) st) K := by
  rw [runD, hw, sel_true, if_pos hp, hs, bnd_some, need, if_pos hS, if_pos hq]; exact k
theorem PostD_no {ds : List Nat} {ops r : List Oper} {st : St} {o : Oper} {K : St → Prop} (hw : wantedA ops o.guard st = some false) (hq : okAll ds st.t (tkT h o).toList = true)
    (k : PostD (runD P h C ds ops r (st.put o.dst (.tup []))) K) : PostD (runD P h C ds ops (o :: r) st) K := by
  rw [runD, hw, sel_false, if_pos hq]; exact k
theorem PostD_end {ds : List Nat} {ops : List Oper} {st : St} {K : St → Prop} (k : K st) : PostD (runD P h C ds ops [] st) K := ⟨st, by rw [runD], k⟩
theorem Post_bndD {ops : List Oper} {st : St} {F : St → St} {K : Ex → St → Prop} (ds : List Nat) (st0 : St) (e : allocDs ops = ds) (e0 : startD ds st = st0)
    (k : PostD (runD P h C ds ops ops st0) fun s => K .normal (F s)) : Post (bnd (regionA P h C ops true st) fun st => some (Ex.normal, F st)) K := by
  obtain ⟨s, h1, h2⟩ := k
  rw [regionA, if_pos rfl, e, e0, h1]; exact ⟨_, _, rfl, h2⟩
end
end Go.AI
end
section
/- Boxes that may be handed on, cell by cell; frozen rows. No program is in sight. -/
namespace Go.AI
open Go.RowKit
set_option linter.unusedVariables false

section
variable {P : Program} {B : Nat} {T0 : Nat → Prop} {μ0 : Gh} {w0 : World} {N : Nat} {μ : Gh} {lx : Nat → Option Nat} {a : Act} {w : World} {st : St}

theorem Sim.gp_open {i b off : Nat} {sh : Option (TypeId × Nat)} {cs : List AV} (h : Sim B T0 μ0 w0 N μ lx a w st) (hi : look st.t i = some (.gp b off sh)) (hb : st.s[b]? = some cs) (hne : cs ≠ []) :
    ∃ blk cur ty, a.tmps.getD i undef = .pointer (some ⟨blk, off, none⟩) ∧ μ.bx b = some blk ∧ Blk w blk cur ty ∧ cs.length ≤ cur.size ∧ μ.fr blk = 0 ∧
      (∀ (j : Nat) (c : AV), cs[j]? = some c → cell1 c = true ∧ Rep B μ w (cur.getD j undef) c ∧ Tk1 B μ w (cur.getD j undef) c) ∧ (∀ s, sh = some s → (ty, cur.size) = s) := by
  have hf := h.tmp i _ hi
  have hr := hf.1
  generalize hv : a.tmps.getD i undef = v at hr
  cases hr with
  | gp _ _ blk _ hq hs =>
    obtain ⟨cur, ty, g1, g2, g3, g4⟩ := h.glb b cs blk hb hq hne
    exact ⟨blk, cur, ty, rfl, hq, g1, g2, g3, g4, fun s e => by have := hs s e; rw [g1.shape] at this; injection this⟩

theorem Sim.setGlobCell {b blk j : Nat} {cs : List AV} {vs : Array Value} {ty : TypeId} {v : Value} {c : AV} (h : Sim B T0 μ0 w0 N μ lx a w st) (hl : st.s[b]? = some cs) (hb : μ.bx b = some blk)
    (hh : Blk w blk vs ty) (hj : j < cs.length) (r : Res B T0 w0 μ lx a w st v c) (hc : cell1 c = true) :
    Sim B T0 μ0 w0 N μ lx a (w.setCell ⟨blk, j, none⟩ v) { st with s := st.s.set b (cs.set j c) } := by
  have hne : cs ≠ [] := fun e => by subst e; simp at hj
  obtain ⟨vs0, ty0, g1, g2, g3, g4⟩ := h.glb b cs blk hl hb hne
  obtain ⟨fz, hh', hok⟩ := hh
  obtain ⟨rfl, rfl⟩ : vs0 = vs ∧ ty0 = ty := by
    obtain ⟨fz1, g1, _⟩ := g1
    rw [hh'] at g1; injection g1 with g1; injection g1 with e1 e2; exact ⟨e1.symm, e2.symm⟩
  have hh : Blk w blk vs0 ty0 := ⟨fz, hh', hok⟩
  have hjv : j < vs0.size := Nat.lt_of_lt_of_le hj g2
  have hrep : Rep B μ w v c := r.full.rep fun d i e => by subst e; cases hc
  have htk : Tk1 B μ w v c := by
    have := r.full
    cases c with
    | lp d i => cases hc
    | tup xs => cases hc
    | _ => exact this.2
  rw [setCell_eq_setRow w blk j vs0 ty0 fz v hh']
  have hget : ∀ j', (vs0.setIfInBounds j v).getD j' undef = if j' = j then v else vs0.getD j' undef := by
    intro j'
    simp only [Array.getD_eq_getD_getElem?, Array.getElem?_setIfInBounds]
    by_cases e : j' = j
    · subst e; simp [hjv]
    · rw [if_neg (fun q => e q.symm), if_neg e]
  have hcs : ∀ (j' : Nat) (c' : AV), (cs.set j c)[j']? = some c' → (j' = j ∧ c' = c) ∨ (j' ≠ j ∧ cs[j']? = some c') := by
    intro j' c' e
    rw [List.getElem?_set] at e
    by_cases q : j = j'
    · subst q; simp [hj] at e; exact .inl ⟨rfl, e.symm⟩
    · rw [if_neg q] at e; exact .inr ⟨fun e => q e.symm, e⟩
  have oldown : ∀ (j' k : Nat) (c' : AV), cs[j']? = some c' → exBlk (vs0.getD j' undef) c' = some k → own a lx μ w st (.gc b j') = some k := by
    intro j' k c' hc e
    have hj' : j' < vs0.size := Nat.lt_of_lt_of_le (List.getElem?_eq_some_iff.1 hc).1 g2
    have hq : vs0[j']? = some (vs0.getD j' undef) := by simp [Array.getD_eq_getD_getElem?, hj']
    simp only [own, ownB, hl, hb, Option.bind_some, hc, cell_box hh, hq]
    exact e
  refine h.setGlob (vs := vs0) (ty := ty0) hl hne hb hh g3 (by simp) (by simpa using g2) (fun j' c' e => ?_) (fun j' k c' e x => ?_) (fun j' j'' k c' c'' e e' x x' => ?_)
  · rw [hget]
    rcases hcs j' c' e with ⟨rfl, rfl⟩ | ⟨q, e⟩
    · rw [if_pos rfl]; exact ⟨hc, hrep, htk⟩
    · rw [if_neg q]; exact g4 j' c' e
  · rw [hget] at x
    rcases hcs j' c' e with ⟨rfl, rfl⟩ | ⟨q, e⟩
    · rw [if_pos rfl] at x
      have := r.tok none k x
      exact ⟨this.1, this.2.1, this.2.2.1, fun l _ => this.2.2.2 l⟩
    · rw [if_neg q] at x
      have ho := oldown j' k c' e x
      have := h.rng _ k ho
      exact ⟨this.1, this.2.1, this.2.2, fun l hl e2 => hl j' (h.inj _ _ k e2 ho)⟩
  · rw [hget] at x x'
    rcases hcs j' c' e with ⟨rfl, rfl⟩ | ⟨q1, e1⟩ <;> rcases hcs j'' c'' e' with ⟨rfl, rfl⟩ | ⟨q2, e2⟩
    · rfl
    · rw [if_pos rfl] at x; rw [if_neg q2] at x'
      exact absurd (oldown j'' k c'' e2 x') ((r.tok none k x).2.2.2 _)
    · rw [if_neg q1] at x; rw [if_pos rfl] at x'
      exact absurd (oldown j' k c' e1 x) ((r.tok none k x').2.2.2 _)
    · rw [if_neg q1] at x; rw [if_neg q2] at x'
      have := h.inj _ _ k (oldown j' k c' e1 x) (oldown j'' k c'' e2 x'); injection this

theorem Sim.unit (h : Sim B T0 μ0 w0 N μ lx a w st) : Sim B T0 μ0 w0 1 μ (fun _ => none) ⟨#[.tuple #[]], []⟩ w ⟨[(0, .tup [])], [], st.s⟩ :=
  h.out (.mk' ⟨.tup _ _ rfl (fun j c hc => by simp at hc), fun j c hc => by simp at hc⟩ fun j => by cases j <;> simp [ownV, exBlk]) fun d i q => by cases q
theorem Sim.text (h : Sim B T0 μ0 w0 N μ lx a w st) (l : List UInt8) : Sim B T0 μ0 w0 1 μ (fun _ => none) ⟨#[.string ⟨l.toArray⟩], []⟩ w ⟨[(0, .str l)], [], st.s⟩ :=
  h.out (.mk' ⟨by have := Rep.str (B := B) (μ := μ) (w := w) ⟨l.toArray⟩; simpa using this, trivial⟩ fun j => by cases j <;> simp [ownV, exBlk]) fun d i q => by cases q
end
end Go.AI
end
