/- Part 3 of a proof: Go functions are evaluated on abstract values; no conditions beyond those of each theorem. -/
import Derived.Test.YtjkkcelnfokplaaGreatDoorFi2
import Derived.Lib.UnsafeStr
import Derived.OpenShut
import Derived.Carry
import Derived.Deep.Slices
import Derived.ChangeOld
import Derived.Lib.LaidTab
import Derived.ChangeSame
import Derived.Deep.Strs
import Derived.Lib.SmallJoins
set_option linter.all false
set_option maxHeartbeats 16000000
set_option maxRecDepth 4000
section
namespace Go.AI
open Go.RowKit
set_option linter.unusedVariables false
theorem qaw {hh:Hint} {ops:Array Oper} (h:drawOk hh ops=true) {j:Nat} {p:Oper} (hj:ops[j]? = some p) :
  (∀e∈p.after,Region.binds .any e=true→e.on<j)∧∀i o,i<j→ops[i]? = some o→(conf hh ops o p=true→befT ops.toList i j=true)∧¬(isAlloc o=true∧isAlloc p=true∧o.dst=p.dst):=by
 have hlt:j<ops.size:=(Array.getElem?_eq_some_iff.1 hj).1
 have:=List.all_eq_true.1 h j (List.mem_range.2 hlt)
 simp only[hj,Bool.and_eq_true] at this
 obtain⟨h1,h2⟩:=this
 refine⟨fun e he hb=>?_,fun i o hi ho=>?_⟩
 ·have:=List.all_eq_true.1 h1 e (by simpa using he)
  simpa[hb] using this
 ·have:=List.all_eq_true.1 h2 i (List.mem_range.2 hi)
  simp only[ho,Bool.and_eq_true,Bool.or_eq_true,Bool.not_eq_true'] at this
  refine⟨fun hc=>?_,fun ⟨a1,a2,a3⟩=>?_⟩
  ·rcases this.1 with h|h
   ·rw[hc] at h;cases h
   ·exact h
  ·have:=this.2
   simp[a1,a2,a3] at this
theorem qtt {ops:Array Oper} {i j:Nat} {p:Oper} (hj:ops[j]? = some p) (h:bef ops.toList i j=true):∃e∈p.after,Region.binds .any e=true∧e.on=i:=by
 unfold bef at h
 have:ops.toList[j]? = some p:=by simpa using hj
 rw[this] at h
 simp only at h
 obtain⟨e,he,h⟩:=List.any_eq_true.1 h
 simp only[Bool.and_eq_true,beq_iff_eq] at h
 exact⟨e,by simpa using he,h.1,h.2⟩
theorem qna {ops:Array Oper} {S:Nat→Prop} (hS:∀j o,ops[j]? = some o→S j→∀e∈o.after,Region.binds .any e=true→S e.on) (i:Nat):∀n j,befs ops.toList n i j=true→(∀o,ops[j]? = some o→∀e∈o.after,Region.binds .any e=true→S e.on)→S i:=by
 intro n
 induction n with
 | zero=>intro j h _;cases h
 | succ n ih =>
  intro j h hp
  simp only[befs] at h
  split at h
  ·rename_i o ho
   have ho:ops[j]? = some o:=by simpa using ho
   obtain⟨e,he,h⟩:=List.any_eq_true.1 h
   simp only[Bool.and_eq_true,Bool.or_eq_true,beq_iff_eq] at h
   obtain⟨h1,h2⟩:=h
   have hSe:=hp o ho e (by simpa using he) h1
   rcases h2 with h2|h2
   ·rw[← h2];exact hSe
   ·exact ih e.on h2 fun o' ho'=>hS e.on o' ho' hSe
  ·cases h
theorem qfr {ops:Array Oper} {S:Nat→Prop} (hS:∀j o,ops[j]? = some o→S j→∀e∈o.after,Region.binds .any e=true→S e.on) {i j:Nat} {p:Oper} (hj:ops[j]? = some p) (h:befT ops.toList i j=true) (hp:∀e∈p.after,Region.binds .any e=true→S e.on):S i:=by
 unfold befT at h
 rw[Bool.or_eq_true] at h
 rcases h with h|h
 ·obtain⟨e,he,hb,hon⟩:=qtt hj h
  rw[← hon];exact hp e he hb
 ·exact qna hS i 5 j h fun o ho=>by rw[hj] at ho;injection ho with ho;subst ho;exact hp
def befL (ops:List Oper) (i j:Nat):Bool:=befs ops 14 i j
theorem qtu {ops:Array Oper} {S:Nat→Prop} (hS:∀j o,ops[j]? = some o→S j→∀e∈o.after,Region.binds .any e=true→S e.on) {i j:Nat} {p:Oper} (hj:ops[j]? = some p) (h:befL ops.toList i j=true) (hp:∀e∈p.after,Region.binds .any e=true→S e.on):S i :=
 qna hS i 14 j h fun o ho=>by rw[hj] at ho;injection ho with ho;subst ho;exact hp
def cnt (S:Nat→Bool):Nat→Nat
 | 0=>0
 | k+1=>cnt S k+if S k then 0 else 1
theorem qw0 {S S':Nat→Bool} {i:Nat} (hS:∀k,S' k=(S k||decide (k=i))) (hi:S i=false):∀n,cnt S n=cnt S' n+if i<n then 1 else 0:=by
 intro n
 induction n with
 | zero=>rfl
 | succ n ih =>
  simp only[cnt,hS n,ih]
  by_cases hn:n=i
  ·subst hn;simp[hi]
  ·have h1:(i<n+1)↔i<n:=by omega
   simp[hn,h1];omega
theorem qtv {S:Nat→Bool}:∀n,cnt S n=0→∀k,k<n→S k=true:=by
 intro n
 induction n with
 | zero=>intro _ k hk;omega
 | succ n ih =>
  intro h k hk
  simp only[cnt] at h
  have h1:cnt S n=0:=by omega
  have h2:S n=true:=by
   cases hs:S n with
   | true=>rfl
   | false=>simp[hs] at h
  by_cases hkn:k=n
  ·subst hkn;exact h2
  ·exact ih h1 k (by omega)
section
variable {P:Program} {hh:Hint} {C:Oracle} {B:Nat} {W0:World}
theorem qka {N:Nat} {l:List Oper} (h:opsOk N l=true) {i:Nat} {o:Oper} (ho:l[i]? = some o):∀n,o.dst=some n→n<N:=by
 induction l generalizing i with
 | nil=>simp at ho
 | cons p r ih =>
  simp only[opsOk,Bool.and_eq_true] at h
  cases i with
  | zero=>simp at ho;subst ho;intro n hn;have:=h.1;rw[hn] at this;simpa using this
  | succ i=>simp at ho;exact ih h.2 ho
def StepE (P:Program) (hh:Hint) (C:Oracle) (ds:List Nat) (ops:List Oper) (o:Oper) (st st':St):Prop :=
 StepD P hh C ds ops o st st'∨(st'=st∧okAll ds st.t (wrT hh o)=true)
theorem qlp {ds:List Nat} {ops:List Oper} {o:Oper} {st st':St} (h:StepE P hh C ds ops o st st') (hn:(st.t.map (·.1)).Nodup):(st'.t.map (·.1)).Nodup:=by
 rcases h with h|⟨rfl,_⟩
 ·exact qln h hn
 ·exact hn
theorem qd7 {ds:List Nat} {ops:List Oper} {o:Oper} {st st':St} (h:StepE P hh C ds ops o st st') :
  (∀x,x∉wrT hh o→look st'.t x=look st.t x)∧(∀d,boxW hh o≠some d→look st'.l d=look st.l d):=by
 rcases h with h|⟨rfl,_⟩
 ·exact qlo h
 ·exact⟨fun _ _=>rfl,fun _ _=>rfl⟩
theorem qqh {ds:List Nat} {ops:List Oper} {o:Oper} {st st':St} (h:StepE P hh C ds ops o st st') (hn:allowS hh o=false):st'.s=st.s:=by
 rcases h with h|⟨rfl,_⟩
 ·exact qqg h hn
 ·rfl
theorem qtw {ds:List Nat} {ops:List Oper} {o:Oper} {st st':St} {x:Nat} (h:StepE P hh C ds ops o st st') (hm:mvM hh true o=some x):(look st'.t x).map dem=(look st.t x).map dem:=by
 rcases h with h|⟨rfl,_⟩
 ·exact qtq h hm
 ·rfl
theorem qtx {ds:List Nat} {ops:List Oper} {o:Oper} {st st':St} (h:StepE P hh C ds ops o st st') (hm:mvS hh o=true):dS st'.s=dS st.s:=by
 rcases h with h|⟨rfl,_⟩
 ·exact qtp h hm
 ·rfl
theorem qty {ds:List Nat} {ops:List Oper} {o:Oper} {st st':St} (h:StepE P hh C ds ops o st st') (hm:adS hh o=true):st'.s.take st.s.length=st.s:=by
 rcases h with h|⟨rfl,_⟩
 ·rcases h with ⟨_,_,_,h4,_⟩|⟨_,rfl,_⟩
  ·exact h4.2 hm
  ·cases o.dst<;>simp[St.put]
 ·simp
theorem qtz {α:Type} {S W:Nat→Bool} {v:Nat→α}:∀n,∃q,last S W v n=v q∧q≤n∧(∀k,q≤k→k<n→(S k&&W k)=false)∧(q=0∨∃k,q=k+1∧S k=true∧W k=true):=by
 intro n
 induction n with
 | zero=>exact⟨0,rfl,Nat.le_refl _,fun k h1 h2=>by omega,.inl rfl⟩
 | succ n ih =>
  simp only[last]
  cases hc:(S n&&W n) with
  | true =>
   simp only[Bool.and_eq_true] at hc
   exact⟨n+1,by simp,Nat.le_refl _,fun k h1 h2=>by omega,.inr ⟨n,rfl,hc.1,hc.2⟩⟩
  | false =>
   obtain⟨q,h1,h2,h3,h4⟩:=ih
   refine⟨q,by simp[h1],by omega,fun k k1 k2=>?_,h4⟩
   by_cases hk:k=n
   ·subst hk;exact hc
   ·exact h3 k k1 (by omega)
theorem qoi {ops:List Oper} {i:Nat} {o:Oper} {st st':St} (h:StepE P hh C (allocDs ops) ops o st st') (hn:(st.t.map (·.1)).Nodup) (ho:ops[i]? = some o) {x d:Nat} (hx:x∈wrT hh o) (hd:mem (allocDs ops) d=true)
  {v:AV} (hv:look st'.t x=some v) (hl:isLp d v=true):isAlloc o=true∧o.dst=some d:=by
 rcases h with h|⟨rfl,hk⟩
 ·exact qoh h hn ho hx hd hv hl
 ·exfalso
  have:=qed hk hx
  rw[hv] at this
  cases v with
  | lp d' i' =>
   simp only[isLp,beq_iff_eq] at hl
   subst hl
   simp only[okLp,hd] at this;cases this
  | _=>cases hl
theorem qgg {T0 : Nat → Prop} {μ0 : Gh} {w0 : World} {N : Nat} {ops : Array Oper} {f : Nat → St} {Q : Exit → Act → World → Prop} {R : Array Bool → Gh → (Nat → Option Nat) → Act → World → St → Prop} (hok : drawOk hh ops = true)
    (hRs : ∀ listed μ lx a w σ, R listed μ lx a w σ → Sim B T0 μ0 w0 N μ lx a w σ)
    (hRn : ∀ (listed : Array Bool) (i : Nat) (o : Oper) (a : Act) (w : World) (μ : Gh) (lx : Nat → Option Nat) (σ σ' : St) (K : Act → World → Prop), ops[i]? = some o → i < listed.size → listed.getD i false = false →
      (∀ e ∈ o.after, Region.binds .any e = true → listed.getD e.on false = true) → R listed μ lx a w σ → qqd P hh C ops.toList o σ σ' →
      (∀ a' w' μ' lx', R (listed.setIfInBounds i true) μ' lx' a' w' σ' → K a' w') → wpOp P ops Q i K a w)
    (Stp : Nat → Prop) (hSt : ∀ i, Stp i → i + 1 = ops.size ∧ ∀ j, j < i → befL ops.toList j i = true)
    (hStop : ∀ (listed : Array Bool) (i : Nat) (o : Oper) (a : Act) (w : World) (μ : Gh) (lx : Nat → Option Nat) (σ : St) (K : Act → World → Prop), Stp i → ops[i]? = some o → R listed μ lx a w σ → Sim B T0 μ0 w0 N μ lx a w (f i) → wpOp P ops Q i K a w)
    (hfE : ∀ (i : Nat) (o : Oper), ops.toList[i]? = some o → StepE P hh C (allocDs ops.toList) ops.toList o (f i) (f (i + 1)))
    (hf : ∀ (i : Nat) (o : Oper), ops.toList[i]? = some o → ¬ Stp i → StepD P hh C (allocDs ops.toList) ops.toList o (f i) (f (i + 1)))
    (hn0 : ((f 0).t.map (·.1)).Nodup) (h0 : ∀ i v, look (f 0).t i = some v → ∀ d ∈ allocDs ops.toList, isLp d v = false)
    (hQ : (∀ i, ¬ Stp i) → ∀ μ' lx' a' w', Sim B T0 μ0 w0 N μ' lx' a' w' (f ops.size) → Q .normal a' w') :
    ∀ (fuel : Nat) (listed : Array Bool) (a : Act) (w : World) (μ : Gh) (lx : Nat → Option Nat) (σ : St), listed.size = ops.size → cnt (fun i => listed.getD i false) ops.size = fuel →
      (∀ j o, ops[j]? = some o → listed.getD j false = true → ∀ e ∈ o.after, Region.binds .any e = true → listed.getD e.on false = true) →
      (∀ i, Stp i → listed.getD i false = false) → R listed μ lx a w σ →
      (∀ x, look σ.t x = last (fun i => listed.getD i false) (fun k => match ops[k]? with | some o => (wrT hh o).contains x | none => false) (fun k => look (f k).t x) ops.size) →
      (∀ d, look σ.l d = last (fun i => listed.getD i false) (fun k => match ops[k]? with | some o => boxW hh o == some d | none => false) (fun k => look (f k).l d) ops.size) →
      σ.s = last (fun i => listed.getD i false) (fun k => match ops[k]? with | some o => allowS hh o | none => false) (fun k => (f k).s) ops.size → wpAny P .any ops Q fuel listed a w := by
  have hfa : ∀ (i : Nat) (o : Oper), ops[i]? = some o → StepE P hh C (allocDs ops.toList) ops.toList o (f i) (f (i + 1)) := fun i o h => hfE i o (by simpa using h)
  have hnd : ∀ i, i ≤ ops.size → ((f i).t.map (·.1)).Nodup := by
    intro i
    induction i with
    | zero => intro _; exact hn0
    | succ i ih =>
      intro hi
      have hs := hfa i ops[i] (Array.getElem?_eq_getElem (by omega))
      exact qlp hs (ih (by omega))
  have frT : ∀ x k, k < ops.size → (match ops[k]? with | some o => (wrT hh o).contains x | none => false) = false → look (f (k + 1)).t x = look (f k).t x := by
    intro x k hk hw
    have ho : ops[k]? = some ops[k] := by simp [hk]
    rw [ho] at hw
    exact (qd7 (hfa k _ ho)).1 x (by simpa using hw)
  have frL : ∀ d k, k < ops.size → (match ops[k]? with | some o => boxW hh o == some d | none => false) = false → look (f (k + 1)).l d = look (f k).l d := by
    intro d k hk hw
    have ho : ops[k]? = some ops[k] := by simp [hk]
    rw [ho] at hw
    exact (qd7 (hfa k _ ho)).2 d (by simpa using hw)
  have frS : ∀ k, k < ops.size → (match ops[k]? with | some o => allowS hh o | none => false) = false → (f (k + 1)).s = (f k).s := by
    intro k hk hw
    have ho : ops[k]? = some ops[k] := by simp [hk]
    rw [ho] at hw
    exact qqh (hfa k _ ho) hw
  have done : ∀ (listed : Array Bool) (a : Act) (w : World) (μ : Gh) (lx : Nat → Option Nat) (σ : St), (∀ i, Stp i → listed.getD i false = false) → (∀ k, k < ops.size → listed.getD k false = true) → Sim B T0 μ0 w0 N μ lx a w σ →
      (∀ x, look σ.t x = last (fun i => listed.getD i false) (fun k => match ops[k]? with | some o => (wrT hh o).contains x | none => false) (fun k => look (f k).t x) ops.size) →
      (∀ d, look σ.l d = last (fun i => listed.getD i false) (fun k => match ops[k]? with | some o => boxW hh o == some d | none => false) (fun k => look (f k).l d) ops.size) →
      σ.s = last (fun i => listed.getD i false) (fun k => match ops[k]? with | some o => allowS hh o | none => false) (fun k => (f k).s) ops.size → Q .normal a w := by
    intro listed a w μ lx σ hns hall hs ht hl hss
    have hno : ∀ i, ¬ Stp i := fun i hi => by
      have := hall i (by have := (hSt i hi).1; omega)
      rw [hns i hi] at this; cases this
    have hss' : σ.s = (f ops.size).s := by
      rw [hss]; exact qbi (i := ops.size) (fun k hk => frS k hk) _ (Nat.le_refl _) (fun k hk _ => hall k hk) (fun k h1 h2 => by omega)
    refine hQ hno μ lx a w (hs.le ⟨fun i v e => ⟨v, ?_, .inl rfl⟩, fun d cs e => ⟨cs, ?_, CLe.refl _⟩, fun b cs e => ⟨cs, ?_, CLe.refl _⟩, ?_, fun _ => hnd _ (Nat.le_refl _)⟩)
    · rw [ht, qbi (i := ops.size) (fun k hk => frT i k hk) _ (Nat.le_refl _) (fun k hk _ => hall k hk) (fun k h1 h2 => by omega)]; exact e
    · rw [hl, qbi (i := ops.size) (fun k hk => frL d k hk) _ (Nat.le_refl _) (fun k hk _ => hall k hk) (fun k h1 h2 => by omega)]; exact e
    · rw [hss']; exact e
    · rw [hss']; exact Nat.le_refl _
  have noready : ∀ (listed : Array Bool), listed.size = ops.size → Region.ready .any ops listed = [] → ∀ k, k < ops.size → listed.getD k false = true := by
    intro listed hsz hr k
    induction k using Nat.strongRecOn with
    | _ k ih =>
      intro hk
      cases hc : listed.getD k false with
      | true => rfl
      | false =>
        have hpk : ops[k]? = some ops[k] := Array.getElem?_eq_getElem hk
        have : k ∈ Region.ready .any ops listed := mem_ready.2 ⟨by
          rw [Array.getD_eq_getD_getElem?] at hc ⊢
          have : k < listed.size := by omega
          simp [this] at hc ⊢; exact hc, ops[k], hpk, fun e he hb => ih e.on ((qaw hok hpk).1 e he hb) (by
            have := (qaw hok hpk).1 e he hb
            omega)⟩
        rw [hr] at this; cases this
  intro fuel
  induction fuel with
  | zero =>
    intro listed a w μ lx σ hsz hcnt hcl hns hs ht hl hss
    have hall := qtv _ hcnt
    refine ⟨?_, done listed a w μ lx σ hns hall (hRs _ _ _ _ _ _ hs) ht hl hss⟩
    cases hr : Region.ready .any ops listed with
    | nil => rfl
    | cons i r =>
      have hi : i ∈ Region.ready .any ops listed := by rw [hr]; simp
      obtain ⟨h1, o, h2, _⟩ := mem_ready.1 hi
      have hlt : i < ops.size := (Array.getElem?_eq_some_iff.1 h2).1
      have := hall i hlt
      rw [Array.getD_eq_getD_getElem?] at this h1
      have hl' : i < listed.size := by omega
      simp [hl'] at this h1
      rw [h1] at this; cases this
  | succ fuel ih =>
    intro listed a w μ lx σ hsz hcnt hcl hns hs ht hl hss
    have hs' := hs
    replace hs := hRs _ _ _ _ _ _ hs
    refine ⟨fun hr => done listed a w μ lx σ hns (noready listed hsz hr) hs ht hl hss, fun i hi => ?_⟩
    obtain ⟨h1, o, ho, hpre⟩ := mem_ready.1 hi
    have hlt : i < ops.size := (Array.getElem?_eq_some_iff.1 ho).1
    have hlt' : i < listed.size := by omega
    have hSi : listed.getD i false = false := by
      rw [Array.getD_eq_getD_getElem?] at h1 ⊢
      simp [hlt'] at h1 ⊢; exact h1
    by_cases hstp : Stp i
    · have hall : ∀ k, k < i → listed.getD k false = true := fun k hk => qtu (S := fun k => listed.getD k false = true) hcl ho ((hSt i hstp).2 k hk) hpre
      have hlate : ∀ k, i ≤ k → k < ops.size → listed.getD k false = false := fun k h1 h2 => by
        have := (hSt i hstp).1
        have hki : k = i := by omega
        rw [hki]; exact hSi
      refine hStop listed i o a w μ lx σ _ hstp ho hs' (hs.le ⟨fun x v e => ⟨v, ?_, .inl rfl⟩, fun d cs e => ⟨cs, ?_, CLe.refl _⟩, fun b cs e => ⟨cs, ?_, CLe.refl _⟩, ?_, fun _ => hnd _ (by omega)⟩)
      · rw [ht, qbi (i := i) (fun k hk => frT x k (by omega)) _ (by omega) (fun k hk _ => hall k hk) (fun k h1 h2 _ => hlate k h1 h2)]; exact e
      · rw [hl, qbi (i := i) (fun k hk => frL d k (by omega)) _ (by omega) (fun k hk _ => hall k hk) (fun k h1 h2 _ => hlate k h1 h2)]; exact e
      · rw [hss, qbi (i := i) (fun k hk => frS k (by omega)) _ (by omega) (fun k hk _ => hall k hk) (fun k h1 h2 _ => hlate k h1 h2)]; exact e
      · rw [hss, qbi (i := i) (fun k hk => frS k (by omega)) _ (by omega) (fun k hk _ => hall k hk) (fun k h1 h2 _ => hlate k h1 h2)]; exact Nat.le_refl _
    have hD := hf i o (by simpa using ho) hstp
    have early : ∀ k p, k < i → ops[k]? = some p → conf hh ops p o = true → listed.getD k false = true := by
      intro k p hk hp hc
      exact qfr (S := fun k => listed.getD k false = true) hcl ho (((qaw hok ho).2 k p hk hp).1 hc) hpre
    have late : ∀ k p, i < k → ops[k]? = some p → conf hh ops o p = true → listed.getD k false = false := by
      intro k p hk hp hc
      cases hq : listed.getD k false with
      | false => rfl
      | true =>
        have := qfr (S := fun k => listed.getD k false = true) hcl hp (((qaw hok hp).2 i o hk ho).1 hc) (hcl k p hp hq)
        rw [hSi] at this; cases this
    have agT : ∀ x, x ∈ o.looksAt ops → mvM hh false o ≠ some x → look σ.t x = look (f i).t x := by
      intro x hx hne
      have hne' : (mvM hh false o == some x) = false := by simpa using hne
      rw [ht]
      refine qbi (fun k hk => frT x k (by omega)) _ (Nat.le_of_lt hlt) (fun k hk hw => ?_) (fun k h1 h2 hw => ?_)
      · have hp : ops[k]? = some ops[k] := Array.getElem?_eq_getElem (by omega)
        rw [hp] at hw
        refine early k _ hk hp ?_
        unfold conf
        have : (wrT hh ops[k]).any (fun x => ((o.looksAt ops).contains x && !(mvM hh false o == some x && mvM hh true ops[k] == some x)) || (wrT hh o).contains x) = true := List.any_eq_true.2 ⟨x, by simpa using hw, by simp [hx, hne']⟩
        simp only [this, Bool.true_or, Bool.or_true]
      · by_cases hki : k = i
        · subst hki; exact hSi
        · have hp : ops[k]? = some ops[k] := Array.getElem?_eq_getElem (by omega)
          rw [hp] at hw
          refine late k _ (by omega) hp ?_
          unfold conf
          have : (wrT hh ops[k]).any (fun x => (o.looksAt ops).contains x && !(mvM hh false o == some x && mvM hh true ops[k] == some x)) = true := List.any_eq_true.2 ⟨x, by simpa using hw, by simp [hx, hne']⟩
          simp only [this, Bool.true_or, Bool.or_true]
    have agT2 : ∀ x, mvM hh false o = some x → (look σ.t x).map dem = (look (f i).t x).map dem := by
      intro x hmv
      have hx : x ∈ o.looksAt ops := by
        obtain ⟨h1, _⟩ := qfq hmv
        exact List.mem_append_left _ (List.mem_filterMap.2 ⟨.tmp x, by simp [h1, Op.operands], rfl⟩)
      have frW : ∀ k, k < ops.size → (match ops[k]? with | some o => (wrT hh o).contains x && !(mvM hh true o == some x) | none => false) = false → (look (f (k + 1)).t x).map dem = (look (f k).t x).map dem := by
        intro k hk hw
        have hp : ops[k]? = some ops[k] := by simp [hk]
        rw [hp] at hw
        cases ha : (wrT hh ops[k]).contains x with
        | false => rw [(qd7 (hfa k _ hp)).1 x (by simpa using ha)]
        | true =>
          simp only [ha, Bool.true_and, Bool.not_eq_false', beq_iff_eq] at hw
          exact qtw (hfa k _ hp) hw
      rw [ht, qts (fun v : Option AV => v.map dem)]
      rw [qqf (W := fun k => match ops[k]? with | some o => (wrT hh o).contains x && !(mvM hh true o == some x) | none => false)]
      · refine qbi (v := fun k => (look (f k).t x).map dem) (fun k hk => frW k (by omega)) _ (Nat.le_of_lt hlt) (fun k hk hw => ?_) (fun k h1 h2 hw => ?_)
        · have hp : ops[k]? = some ops[k] := Array.getElem?_eq_getElem (by omega)
          rw [hp] at hw
          simp only [Bool.and_eq_true, Bool.not_eq_true'] at hw
          refine early k _ hk hp ?_
          unfold conf
          have : (wrT hh ops[k]).any (fun x => ((o.looksAt ops).contains x && !(mvM hh false o == some x && mvM hh true ops[k] == some x)) || (wrT hh o).contains x) = true := List.any_eq_true.2 ⟨x, by simpa using hw.1, by rw [hw.2]; simp [hx]⟩
          simp only [this, Bool.true_or, Bool.or_true]
        · by_cases hki : k = i
          · subst hki; exact hSi
          · have hp : ops[k]? = some ops[k] := Array.getElem?_eq_getElem (by omega)
            rw [hp] at hw
            simp only [Bool.and_eq_true, Bool.not_eq_true'] at hw
            refine late k _ (by omega) hp ?_
            unfold conf
            have : (wrT hh ops[k]).any (fun x => (o.looksAt ops).contains x && !(mvM hh false o == some x && mvM hh true ops[k] == some x)) = true := List.any_eq_true.2 ⟨x, by simpa using hw.1, by rw [hw.2]; simp [hx]⟩
            simp only [this, Bool.true_or, Bool.or_true]
      · intro k hw
        cases hp : ops[k]? with
        | none => rw [hp] at hw; cases hw
        | some p => rw [hp] at hw; simp only [Bool.and_eq_true] at hw ⊢; exact hw.1
      · exact fun k hk => frW k hk
      · intro j k hjk hk hj hak hsk
        have hp : ops[k]? = some ops[k] := Array.getElem?_eq_getElem (by omega)
        have hpj : ops[j]? = some ops[j] := Array.getElem?_eq_getElem (by omega)
        rw [hp] at hak
        rw [hpj] at hj
        have hc : conf hh ops ops[j] ops[k] = true := by
          unfold conf
          have : (wrT hh ops[j]).any (fun x => (((ops[k]).looksAt ops).contains x && !(mvM hh false ops[k] == some x && mvM hh true ops[j] == some x)) || (wrT hh ops[k]).contains x) = true := List.any_eq_true.2 ⟨x, by simpa using hj, by simp at hak; simp [hak]⟩
          simp only [this, Bool.true_or, Bool.or_true]
        exact qfr (S := fun k => listed.getD k false = true) hcl hp (((qaw hok hp).2 j _ hjk hpj).1 hc) (hcl k _ hp hsk)
    have agL : ∀ d, boxR hh o = some d ∨ boxW hh o = some d → look σ.l d = look (f i).l d := by
      intro d hd
      rw [hl]
      refine qbi (fun k hk => frL d k (by omega)) _ (Nat.le_of_lt hlt) (fun k hk hw => ?_) (fun k h1 h2 hw => ?_)
      · have hp : ops[k]? = some ops[k] := Array.getElem?_eq_getElem (by omega)
        rw [hp] at hw
        have hw : boxW hh ops[k] = some d := by simpa using hw
        refine early k _ hk hp ?_
        unfold conf
        rcases hd with hd | hd
        · have : meetB (boxW hh ops[k]) (boxR hh o) = true := qc8.2 ⟨d, hw, hd⟩
          simp only [this, Bool.true_or, Bool.or_true]
        · have : meetB (boxW hh ops[k]) (boxW hh o) = true := qc8.2 ⟨d, hw, hd⟩
          simp only [this, Bool.true_or, Bool.or_true]
      · by_cases hki : k = i
        · subst hki; exact hSi
        · have hp : ops[k]? = some ops[k] := Array.getElem?_eq_getElem (by omega)
          rw [hp] at hw
          have hw : boxW hh ops[k] = some d := by simpa using hw
          refine late k _ (by omega) hp ?_
          unfold conf
          rcases hd with hd | hd
          · have : meetB (boxR hh o) (boxW hh ops[k]) = true := qc8.2 ⟨d, hd, hw⟩
            simp only [this, Bool.true_or, Bool.or_true]
          · have : meetB (boxW hh o) (boxW hh ops[k]) = true := qc8.2 ⟨d, hd, hw⟩
            simp only [this, Bool.true_or, Bool.or_true]
    have alC : ∀ p : Oper, allowS hh p = true → seesS hh p = true ∧ plS hh p = false := by
      intro p hp
      constructor
      · unfold allowS at hp; simp only [Bool.and_eq_true] at hp; exact hp.1
      · cases hq : plS hh p with
        | false => rfl
        | true => obtain ⟨_, _, _, _, h, _⟩ := qiq hq; rw [hp] at h; cases h
    have agS2 : plS hh o = true → ∀ t x b off sh, o.op = .load t x → aeval (f i) x = some (.gp b off sh) → b < (f i).s.length → (σ.s[b]?).map (·.map dem1) = ((f i).s[b]?).map (·.map dem1) := by
      intro hpl t x b off sh hop hax hbi
      obtain ⟨_, _, _, _, _, hse⟩ := qiq hpl
      have hmv : mvM hh false o = none := by unfold mvM; rw [hop]
      have hax2 : aeval σ x = some (.gp b off sh) := by
        rw [← hax]
        cases x with
        | tmp y => exact agT y (List.mem_append_left _ (List.mem_filterMap.2 ⟨.tmp y, by rw [hop]; simp [Op.operands], rfl⟩)) (by rw [hmv]; simp)
        | _ => rfl
      have hbs : b < σ.s.length := by
        have hr := (ql hs hax2).1
        rcases Nat.lt_or_ge b σ.s.length with h | h
        · exact h
        · have := hs.gdom b h
          generalize a.eval x = vv at hr
          cases hr with
          | gp b i blk sh h1 h2 => rw [this] at h1; cases h1
      have seg : ∀ (j l : Nat), j ≤ l → l ≤ ops.size → (∀ k p, j ≤ k → k < l → ops[k]? = some p → allowS hh p = true → mvS hh p = true ∨ adS hh p = true) → ∀ b, b < (f j).s.length → b < (f l).s.length ∧ ((f l).s[b]?).map (·.map dem1) = ((f j).s[b]?).map (·.map dem1) := by
        intro j l hjl
        induction l with
        | zero => intro _ _ b hb; have : j = 0 := by omega
                  subst this; exact ⟨hb, rfl⟩
        | succ l ih =>
          intro hl hk b hb
          by_cases hjl' : j = l + 1
          · subst hjl'; exact ⟨hb, rfl⟩
          · obtain ⟨i1, i2⟩ := ih (by omega) (by omega) (fun k p h1 h2 => hk k p h1 (by omega)) b hb
            have hp : ops[l]? = some ops[l] := Array.getElem?_eq_getElem (by omega)
            have hE := hfa l _ hp
            cases ha : allowS hh ops[l] with
            | false => rw [qqh hE ha]; exact ⟨i1, i2⟩
            | true =>
              rcases hk l _ (by omega) (by omega) hp ha with h | h
              · have hd := qtx hE h
                have hlen : (f (l + 1)).s.length = (f l).s.length := by have := congrArg List.length hd; simpa [dS] using this
                exact ⟨by rw [hlen]; exact i1, (qz6 hd b).trans i2⟩
              · have hd := qty hE h
                have hlen : (f l).s.length ≤ (f (l + 1)).s.length := by have := congrArg List.length hd; simp at this; omega
                refine ⟨by omega, ?_⟩
                have hq : (f l).s[b]? = (f (l + 1)).s[b]? := by
                  have : (List.take (f l).s.length (f (l + 1)).s)[b]? = (f l).s[b]? := by rw [hd]
                  rw [← this, List.getElem?_take, if_pos i1]
                rw [← i2, hq]
      obtain ⟨q, hq1, hq2, hq3, hq4⟩ := qtz (S := fun i => listed.getD i false) (W := fun k => match ops[k]? with | some o => allowS hh o | none => false) (v := fun k => (f k).s) ops.size
      have hσ : σ.s = (f q).s := hss.trans hq1
      rw [hσ] at hbs ⊢
      have hoi : allowS hh o = false := by
        cases hh2 : allowS hh o with
        | false => rfl
        | true => have := (alC o hh2).2; rw [hpl] at this; cases this
      rcases Nat.lt_or_ge i q with hiq | hiq
      · -- a later one was done
        rcases hq4 with rfl | ⟨k0, rfl, hS0, hW0⟩
        · omega
        have hp0 : ops[k0]? = some ops[k0] := Array.getElem?_eq_getElem (by omega)
        simp only [hp0] at hW0
        have hS0 : listed.getD k0 false = true := hS0
        have hne : k0 ≠ i := fun e => by subst e; rw [hSi] at hS0; cases hS0
        refine ((seg i (k0 + 1) (by omega) hq2 (fun k p h1 h2 hp ha => ?_) b hbi).2)
        by_cases hki : k = i
        · subst hki; rw [ho] at hp; injection hp with hp; subst hp; rw [hoi] at ha; cases ha
        cases hm : mvS hh p with
        | true => exact .inl rfl
        | false =>
          cases hd : adS hh p with
          | true => exact .inr rfl
          | false =>
            exfalso
            have hl1 : listed.getD k false = false := by
              refine late k p (by omega) hp ?_
              unfold conf
              simp only [ha, hm, hd, hse, Bool.or_false, Bool.and_false, Bool.not_false, Bool.and_true, Bool.true_or, Bool.or_true]
            by_cases hk0 : k = k0
            · subst hk0; rw [hl1] at hS0; cases hS0
            · have hc : conf hh ops p ops[k0] = true := by
                unfold conf
                simp only [ha, (alC _ hW0).1, (alC _ hW0).2, Bool.and_false, Bool.false_and, Bool.not_false, Bool.and_true, Bool.true_or, Bool.or_true]
              have := qfr (S := fun k => listed.getD k false = true) hcl hp0 (((qaw hok hp0).2 k _ (by omega) hp).1 hc) (hcl k0 _ hp0 hS0)
              rw [hl1] at this; cases this
      · refine ((seg q i hiq (by omega) (fun k p h1 h2 hp ha => ?_) b hbs).2).symm
        have hW : (match ops[k]? with | some o => allowS hh o | none => false) = true := by rw [hp]; exact ha
        have hns := hq3 k h1 (by omega)
        simp only [hW, Bool.and_true] at hns
        cases hm : mvS hh p with
        | true => exact .inl rfl
        | false =>
          cases hd : adS hh p with
          | true => exact .inr rfl
          | false =>
            exfalso
            have hl1 : listed.getD k false = true := by
              refine early k p h2 hp ?_
              unfold conf
              simp only [ha, hm, hd, hse, Bool.or_false, Bool.false_and, Bool.not_false, Bool.and_true, Bool.true_or, Bool.or_true]
            rw [hl1] at hns; cases hns
    have agS : seesS hh o = true → plS hh o = false → σ.s = (f i).s := by
      intro hse hpl
      rw [hss]
      refine qbi (fun k hk => frS k (by omega)) _ (Nat.le_of_lt hlt) (fun k hk hw => ?_) (fun k h1 h2 hw => ?_)
      · have hp : ops[k]? = some ops[k] := Array.getElem?_eq_getElem (by omega)
        rw [hp] at hw
        refine early k _ hk hp ?_
        unfold conf
        simp only [show allowS hh ops[k] = true from hw, hse, hpl, Bool.and_false, Bool.false_and, Bool.not_false, Bool.and_true, Bool.true_or, Bool.or_true]
      · by_cases hki : k = i
        · subst hki; exact hSi
        · have hp : ops[k]? = some ops[k] := Array.getElem?_eq_getElem (by omega)
          rw [hp] at hw
          refine late k _ (by omega) hp ?_
          unfold conf
          simp only [show allowS hh ops[k] = true from hw, hse, hpl, Bool.and_false, Bool.false_and, Bool.not_false, Bool.and_true, Bool.true_or, Bool.or_true]
    have noL : ∀ d, isAlloc o = true → o.dst = some d → noLp d σ.t = true := by
      intro d ha hd
      have hmem : mem (allocDs ops.toList) d = true := qlm (i := i) (by simpa using ho) ha hd
      refine qqb hs.nd fun x v hv => ?_
      rw [ht] at hv
      cases hq : isLp d v with
      | false => rfl
      | true =>
        rcases qip (S := fun i => listed.getD i false) (W := fun k => match ops[k]? with | some o => (wrT hh o).contains x | none => false) (v := fun k => look (f k).t x) ops.size with e | ⟨k, hk, hS, hWk, e⟩
        · rw [e] at hv
          have := h0 x v hv d ((mem_iff _ _).1 hmem)
          rw [hq] at this; cases this
        · rw [e] at hv
          have hp : ops[k]? = some ops[k] := by simp [hk]
          simp only [hp] at hWk
          obtain ⟨a1, a2⟩ := qoi (i := k) (hfa k _ hp) (hnd k (by omega)) (by simpa using hp) (x := x) (d := d) (by simpa using hWk) hmem hv hq
          have hki : k ≠ i := fun e => by subst e; rw [hSi] at hS; cases hS
          rcases Nat.lt_or_gt_of_ne hki with h | h
          · exact absurd ⟨a1, ha, a2.trans hd.symm⟩ ((qaw hok ho).2 k _ h hp).2
          · exact absurd ⟨ha, a1, hd.trans a2.symm⟩ ((qaw hok hp).2 i o h ho).2
    obtain ⟨σ', hstep, hal, hsr⟩ : ∃ st2', qqd P hh C ops.toList o σ st2' ∧ Alike (wrT hh o) (boxW hh o) (f (i + 1)) σ st2' ∧ (((f (i + 1)).s = (f i).s ∧ st2'.s = σ.s) ∨ (seesS hh o = true ∧ plS hh o = false ∧ st2'.s = (f (i + 1)).s)) := by
      cases hpm : mvM hh false o with
      | some x => exact qtr hD hpm (agT2 x hpm)
      | none =>
        have agT' := fun x hx => agT x hx (by rw [hpm]; simp)
        have hg : wantedA ops.toList o.guard σ = wantedA ops.toList o.guard (f i) := by
          unfold wantedA
          cases hgo : o.guard with
          | none => rfl
          | some p =>
            obtain ⟨j, want⟩ := p
            simp only
            split
            · rename_i d hd
              rw [qm6] at hd
              have : look σ.t d = look (f i).t d := agT' d (List.mem_append_right _ (by simp [hgo]; simpa using hd))
              rw [this]
            · rfl
        exact qj9 hD (fun x hx => by
          cases x with
          | tmp t => exact agT' t (List.mem_append_left _ (List.mem_filterMap.2 ⟨.tmp t, by simpa using hx, rfl⟩))
          | _ => rfl) agS agS2 agL noL hg
    have hS' : ∀ k, (listed.setIfInBounds i true).getD k false = (listed.getD k false || decide (k = i)) := by
      intro k
      by_cases hk : k = i
      · subst hk; simp [hlt']
      · rw [getD_set_ne false (fun e => hk e.symm)]; simp [hk]
    have next : ∀ a' w' μ' lx', R (listed.setIfInBounds i true) μ' lx' a' w' σ' → wpAny P .any ops Q fuel (listed.setIfInBounds i true) a' w' := by
      intro a' w' μ' lx' hsim
      refine ih _ a' w' μ' lx' σ' (by simp [hsz]) ?_ ?_ (fun q hq => by rw [hS']; simp only [hns q hq, Bool.false_or, decide_eq_false_iff_not]; intro e; subst e; exact hstp hq) hsim (fun x => ?_) (fun d => ?_) ?_
      · have := qw0 (S := fun i => listed.getD i false) (S' := fun k => (listed.setIfInBounds i true).getD k false) hS' hSi ops.size
        rw [if_pos hlt] at this; omega
      · intro j p hp hj e he hb
        rw [hS'] at hj ⊢
        simp only [Bool.or_eq_true, decide_eq_true_eq] at hj ⊢
        rcases hj with hj | rfl
        · exact .inl (hcl j p hp hj e he hb)
        · rw [ho] at hp; injection hp with hp; subst hp; exact .inl (hpre e he hb)
      · rw [qio (S := fun i => listed.getD i false) hS' ops.size hlt, hal.t x]
        · simp only [ho]
          by_cases hx : x ∈ wrT hh o
          · simp [hx]
          · simp [hx, ht x]
        · intro hw k h1 h2 hwk
          have hp : ops[k]? = some ops[k] := by simp [h2]
          simp only [ho] at hw
          simp only [hp] at hwk
          refine late k _ h1 hp ?_
          unfold conf
          have : (wrT hh o).any (fun x => ((ops[k].looksAt ops).contains x && !(mvM hh false ops[k] == some x && mvM hh true o == some x)) || (wrT hh ops[k]).contains x) = true := List.any_eq_true.2 ⟨x, by simpa using hw, by simp at hwk; simp [hwk]⟩
          simp only [this, Bool.true_or, Bool.or_true]
      · rw [qio (S := fun i => listed.getD i false) hS' ops.size hlt, hal.l d]
        · simp only [ho]
          by_cases hx : boxW hh o = some d
          · simp [hx]
          · simp [hx, hl d]
        · intro hw k h1 h2 hwk
          have hp : ops[k]? = some ops[k] := by simp [h2]
          simp only [ho] at hw
          simp only [hp] at hwk
          refine late k _ h1 hp ?_
          unfold conf
          have : meetB (boxW hh o) (boxW hh ops[k]) = true := qc8.2 ⟨d, by simpa using hw, by simpa using hwk⟩
          simp only [this, Bool.true_or, Bool.or_true]
      · rw [qio (S := fun i => listed.getD i false) hS' ops.size hlt]
        · simp only [ho]
          cases ha : allowS hh o with
          | true =>
            simp only [if_true]
            have hse : seesS hh o = true := by unfold allowS at ha; simp only [Bool.and_eq_true] at ha; exact ha.1
            rcases hsr with ⟨q1, q2⟩ | ⟨_, _, q2⟩
            · rw [q2, agS hse (alC o ha).2, q1]
            · exact q2
          | false =>
            simp only [Bool.false_eq_true, if_false]
            rw [← hss]
            rcases hsr with ⟨q1, q2⟩ | ⟨hse, hpl, q2⟩
            · exact q2
            · rw [q2, qqg hD ha, agS hse hpl]
        · intro hw k h1 h2 hwk
          have hp : ops[k]? = some ops[k] := by simp [h2]
          simp only [ho] at hw
          simp only [hp] at hwk
          refine late k _ h1 hp ?_
          unfold conf
          simp only [hw, (alC _ hwk).1, (alC _ hwk).2, Bool.and_false, Bool.false_and, Bool.not_false, Bool.and_true, Bool.true_or, Bool.or_true]
    exact hRn listed i o a w μ lx σ σ' _ ho hlt' hSi hpre hs' hstep next
theorem qoj {T0:Nat→Prop} {μ0:Gh} {w0:World} {N:Nat} {ops:Array Oper} {f:Nat→St} {Q:Exit→Act→World→Prop} (hok:drawOk hh ops=true) (hN:opsOk N ops.toList=true)
  (hW:Below B W0 w0) (hC:OracleOk P B W0 C)
  (hf:∀(i:Nat) (o:Oper),ops.toList[i]? = some o→StepD P hh C (allocDs ops.toList) ops.toList o (f i) (f (i+1)))
  (hn0:((f 0).t.map (·.1)).Nodup) (h0:∀i v,look (f 0).t i=some v→∀d∈allocDs ops.toList,isLp d v=false)
  (hQ:∀μ' lx' a' w',Sim B T0 μ0 w0 N μ' lx' a' w' (f ops.size)→Q .normal a' w') :
  ∀(fuel:Nat) (listed:Array Bool) (a:Act) (w:World) (μ:Gh) (lx:Nat→Option Nat) (σ:St),listed.size=ops.size→cnt (fun i=>listed.getD i false) ops.size=fuel →
   (∀j o,ops[j]? = some o→listed.getD j false=true→∀e∈o.after,Region.binds .any e=true→listed.getD e.on false=true) →
   Sim B T0 μ0 w0 N μ lx a w σ →
   (∀x,look σ.t x=last (fun i=>listed.getD i false) (fun k=>match ops[k]? with|some o=>(wrT hh o).contains x|none=>false) (fun k=>look (f k).t x) ops.size) →
   (∀d,look σ.l d=last (fun i=>listed.getD i false) (fun k=>match ops[k]? with|some o=>boxW hh o==some d|none=>false) (fun k=>look (f k).l d) ops.size) →
   σ.s=last (fun i=>listed.getD i false) (fun k=>match ops[k]? with|some o=>allowS hh o|none=>false) (fun k=>(f k).s) ops.size→wpAny P .any ops Q fuel listed a w :=
 fun fuel listed a w μ lx σ h1 h2 h3 h4=>qgg (R:=fun _ μ lx a w σ=>Sim B T0 μ0 w0 N μ lx a w σ) hok (fun _ _ _ _ _ _ h=>h) (fun listed i o a w μ lx σ σ' K ho _ hSi hpre hs hstep next=>by
  have hdN:=qka hN (i:=i) (o:=o) (by simpa using ho)
  unfold wpOp
  rw[ho]
  simp only
  rcases hstep with ⟨hw,hst⟩|⟨hw,hst⟩
  ·rw[qae hs hw]
   exact .inl (qbo hs hW hC hdN hst _ _ fun μ' lx' a' w' hsim=>next a' w' μ' lx' hsim)
  ·rw[qae hs hw]
   simp only[Bool.false_eq_true,if_false]
   refine next _ _ μ lx ?_
   subst hst
   exact qcc hs hdN) (fun _=>False) (fun _ h=>h.elim) (fun _ _ _ _ _ _ _ _ _ h=>h.elim) (fun i o h=>.inl (hf i o h)) (fun i o h _=>hf i o h) hn0 h0 (fun _=>hQ) fuel listed a w μ lx σ h1 h2 h3 (fun _ h=>h.elim) h4
theorem qai (hm:P.follows .mixedOrders=true):DrawOk P B W0 hh C:=by
 intro T0 μ0 w0 N id ops st st' μ lx a w Q hW hC h hok hN e k
 unfold regionA at e
 rw[if_pos rfl] at e
 obtain⟨f,h1,h2,h3⟩:=qh0 _ e
 refine wp_region_any hm ?_
 have hdr:({w with drawn:=w.drawn+1}:World)=w.drew:=rfl
 rw[hdr]
 have hs0:Sim B T0 μ0 w0 N μ lx a w.drew (f 0):=by
  rw[h1]
  have:=h.drew.1
  obtain⟨k1,k2⟩:=qb2 (allocDs ops.toList) st.t h.nd
  exact this.sub (fun i v e=>(k2 i v e).1) k1 fun d cs e=>e
 have hsz:f ops.size=st':=by rw[← h2];simp
 have hno:∀i,(Array.replicate ops.size false).getD i false=false:=fun i=>by
  rw[Array.getD_eq_getD_getElem?]
  by_cases hi:i<ops.size<;>simp[hi]
 have hlast:∀{α:Type} (W:Nat→Bool) (v:Nat→α) n,last (fun i=>(Array.replicate ops.size false).getD i false) W v n=v 0:=by
  intro α W v n
  rcases qip (S:=fun i=>(Array.replicate ops.size false).getD i false) (W:=W) (v:=v) n with e|⟨k,_,hS,_⟩
  ·exact e
  ·simp only[hno] at hS;cases hS
 refine qoj hok hN hW hC h3 hs0.nd ?_ (fun μ' lx' a' w' hs=>k μ' lx' a' w' (by rw[← hsz];exact hs)) ops.size _ a _ μ lx (f 0) (by simp) ?_ ?_ hs0 (fun x=>(hlast _ (fun k=>look (f k).t x) _).symm) (fun d=>(hlast _ (fun k=>look (f k).l d) _).symm) (hlast _ (fun k=>(f k).s) _).symm
 ·intro i v e d hd
  rw[h1] at e
  exact ((qb2 (allocDs ops.toList) st.t h.nd).2 i v e).2 d hd
 ·have:∀n,cnt (fun i=>(Array.replicate ops.size false).getD i false) n=n:=by
   intro n
   induction n with
   | zero=>rfl
   | succ n ih =>
    show cnt _ n+(if (Array.replicate ops.size false).getD n false=true then 0 else 1)=n+1
    rw[ih,hno];rfl
  exact this _
 ·intro j o _ hj
  rw[hno] at hj;cases hj
end
end Go.AI
end
section
namespace Go.AI
set_option linter.unusedVariables false
universe u
theorem nrfl {α:Sort u} {a b:α} (h:a=b):a=b:=h
@[congr] theorem qz8 {α β:Type} {x y:Option α} {f:α→Option β} (e:x=y):bnd x f=bnd y f:=by rw[e]
@[congr] theorem thenE_congr {x y:Option (Ex×St)} {k:St→Option (Ex×St)} (e:x=y):thenE x k=thenE y k:=by rw[e]
@[congr] theorem qw1 {α:Type} {c d:Option AV} {x y:Option α} (e:c=d):condE c x y=condE d x y:=by rw[e]
@[congr] theorem qz9 {α:Type} {c d:Option Bool} {x y:Option α} (e:c=d):sel c x y=sel d x y:=by rw[e]
section
variable {P:Program} {h:Hint} {C:Oracle} {st:St}
@[congr] theorem qy6 {c:Code} {s t:St} (e:s=t):EXEC P h C c s=EXEC P h C c t:=by rw[e]
@[congr] theorem qvz {a b:List Oper} {s t:St} (e:s=t):runOps P h C a b s=runOps P h C a b t:=by rw[e]
@[congr] theorem qy7 {ds:List Nat} {a b:List Oper} {s t:St} (e:s=t):runD P h C ds a b s=runD P h C ds a b t:=by rw[e]
@[congr] theorem finE_congr {fn:Func} {s0:List (List AV)} {x y:Option (Ex×St)} (e:x=y):finE P h s0 fn x=finE P h s0 fn y:=by rw[e]
@[simp] theorem qz {α β:Type} (a:α) (f:α→Option β):bnd (some a) f=f a:=nrfl rfl
@[simp] theorem qt0 {α β:Type} (f:α→Option β):bnd none f=none:=nrfl rfl
theorem qv {α β γ:Type} (x:Option α) (f:α→Option β) (g:β→Option γ):bnd (bnd x f) g=bnd x fun a=>bnd (f a) g:=by cases x<;>rfl
@[simp] theorem thenE_normal (st:St) (k):thenE (some (.normal,st)) k=k st:=nrfl rfl
@[simp] theorem thenE_ret (st:St) (k):thenE (some (.ret,st)) k=some (.ret,st):=nrfl rfl
@[simp] theorem thenE_exit (st:St) (i k):thenE (some (.exit i,st)) k=some (.exit i,st):=nrfl rfl
@[simp] theorem thenE_none (k):thenE none k=none:=nrfl rfl
@[simp] theorem qlq (st:St) (i):blkE i (some (.normal,st))=some (.normal,st):=nrfl rfl
@[simp] theorem qt1 (st:St) (i):blkE i (some (.ret,st))=some (.ret,st):=nrfl rfl
@[simp] theorem qqi (st:St) (i j):blkE i (some (.exit j,st))=if j=i then some (.normal,st) else some (.exit j,st):=nrfl rfl
@[simp] theorem qok {α:Type} (b:Bool) (x y:Option α):condE (some (.bool b)) x y=if b=true then x else y:=by cases b<;>rfl
@[simp] theorem qnb {α:Type} (x y:Option α):sel (some true) x y=x:=nrfl rfl
@[simp] theorem qkb {α:Type} (x y:Option α):sel (some false) x y=y:=nrfl rfl
def strict {α:Type} (x:St) (f:St→α):α:=f x
@[congr] theorem qv0 {α:Type} {x y:St} {f:St→α} (e:x=y):strict x f=strict y f:=by rw[e]
@[simp] theorem q0a {α:Type} {t:List (Nat×AV)} {l:List (Nat×List AV)} {s:List (List AV)} {f:St→α}:strict ⟨t,l,s⟩ f=f ⟨t,l,s⟩:=nrfl rfl
def ms0 {α:Type} (b:Bool) (x:Option α):Option α:=if b then none else x
@[congr] theorem q0b {α:Type} {b c:Bool} {x:Option α} (e:b=c):ms0 b x=ms0 c x:=by rw[e]
@[simp ↓] theorem qag {α:Type} {x:Option α}:ms0 false x=x:=nrfl rfl
@[simp ↓] theorem qap {α:Type} {x:Option α}:ms0 true x=none:=nrfl rfl
def ms2 {α:Type} (b:Bool) (x y:Option α):Option α:=if b then x else y
@[congr] theorem q0c {α:Type} {b c:Bool} {x y:Option α} (e:b=c):ms2 b x y=ms2 c x y:=by rw[e]
@[simp ↓] theorem qcd {α:Type} {x y:Option α}:ms2 false x y=y:=nrfl rfl
@[simp ↓] theorem qdp {α:Type} {x y:Option α}:ms2 true x y=x:=nrfl rfl
def qgh {α:Type} (x:List Nat) (f:List Nat→α):α:=f x
@[congr] theorem qt2 {α:Type} {x y:List Nat} {f:List Nat→α} (e:x=y):qgh x f=qgh y f:=by rw[e]
@[simp] theorem qw2 {α:Type} {f:List Nat→α}:qgh [] f=f []:=nrfl rfl
@[simp] theorem qv1 {α:Type} {x:Nat} {r:List Nat} {f:List Nat→α}:qgh (x::r) f=f (x::r):=nrfl rfl
@[simp ↓] theorem qy8 {ops}:runOps P h C ops [] st=some st:=nrfl rfl
@[simp ↓] theorem qw3 {ops o r}:runOps P h C ops (o::r) st=sel (wantedA ops o.guard st) (bnd (stepOp P h C o st) fun st=>runOps P h C ops r st) (strict (st.put o.dst (.tup [])) fun st=>runOps P h C ops r st):=nrfl rfl
@[simp ↓] theorem runD_nil {ds ops}:runD P h C ds ops [] st=some st:=nrfl rfl
@[simp ↓] theorem q0d {ds ops o r} : runD P h C ds ops (o :: r) st = sel (wantedA ops o.guard st)
      (bnd (if preD h o st = true then stepOp P h C o st else none) fun st' => need ((allowS h o = true ∨ st'.s = st.s) ∧ (adS h o = true → st'.s.take st.s.length = st.s)) (if postD h ds o st'.t = true then runD P h C ds ops r st' else none))
      (if okAll ds st.t (tkT h o).toList = true then strict (st.put o.dst (.tup [])) (fun st => runD P h C ds ops r st) else none) := nrfl rfl
theorem qo {α:Type} {p:Prop} {x:Option α} (hp:p):need p x=x:=by unfold need;rw[if_pos hp]
@[simp] theorem qqj {α:Type} (x:Option α):need True x=x:=qo trivial
section
variable {d:Option Tmp} {n:Nat} {T:TypeId} {pos:String} {af:Array Edge} {g:Option (Nat×Bool)}
@[simp ↓] theorem qw4 {x}:stepOp P h C ⟨d,.assign x,T,pos,af,g⟩ st=ms0 (isMs h d) (bnd (takeOp st x) fun p=>bnd (norm P T p.1) fun v=>some (p.2.put d v)):=by
 cases hm:isMs h d
 ·rw[qag];simp only[stepOp,hm,Bool.false_eq_true,if_false,opVal,qv,qz]
 ·rw[qap];simp only[stepOp,hm,if_true];rfl
@[simp ↓] theorem q0e {x}:stepOp P h C ⟨d,.move x,T,pos,af,g⟩ st=ms0 (isMs h d) (bnd (lend st x (steals h d)) fun p=>some (p.2.put d p.1)):=by
 cases hm:isMs h d
 ·rw[qag];simp only[stepOp,hm,Bool.false_eq_true,if_false,opVal]
 ·rw[qap];simp only[stepOp,hm,if_true];rfl
@[simp ↓] theorem qv2 {x i}:stepOp P h C ⟨d,.extract x i,T,pos,af,g⟩ st=ms0 (isMs h d) (bnd (lend st x (steals h d)) fun p=>bnd (match p.1 with
  | .tup vs=>bnd vs[i]? fun v=>if pers v=true then some (v,p.2) else none
  | _=>none) fun p=>some (p.2.put d p.1)):=by
 cases hm:isMs h d
 ·rw[qag];simp only[stepOp,hm,Bool.false_eq_true,if_false,opVal,qv];rfl
 ·rw[qap];simp only[stepOp,hm,if_true];rfl
@[simp ↓] theorem q0f {c x y}:stepOp P h C ⟨d,.pick c x y,T,pos,af,g⟩ st=ms0 (isMs h d) (bnd (aeval st c) fun t=>bnd (match t with
  | .bool t=>bnd (aeval st (if t=true then x else y)) fun v=>some (dem v)
  | _=>none) fun v=>some (st.put d v)):=by
 cases hm:isMs h d
 ·rw[qag]
  simp only[stepOp,hm,Bool.false_eq_true,if_false,opVal,opPure,qv,qz]
  rfl
 ·rw[qap];simp only[stepOp,hm,if_true];rfl
@[simp ↓] theorem qqk {x y z}:stepOp P h C ⟨d,.buildSlice x y z,T,pos,af,g⟩ st=ms2 (isMs h d) (bnd (msOp P h ⟨d,.buildSlice x y z,T,pos,af,g⟩ st) fun p=>some (p.2.put d p.1)) (bnd (opPure P h ⟨d,.buildSlice x y z,T,pos,af,g⟩ st) fun v=>some (st.put d v)):=by
 cases hm:isMs h d
 ·rw[qcd];simp only[stepOp,hm,Bool.false_eq_true,if_false,opVal,qv,qz]
 ·rw[qdp];simp only[stepOp,hm,if_true]
@[simp ↓] theorem q0g {t x}:stepOp P h C ⟨d,.load t x,T,pos,af,g⟩ st=ms2 (isMs h d) (bnd (msLoad P h t x st) fun p=>some (p.2.put d p.1)) (bnd (aeval st x) fun p=>bnd (boxOf st p) fun b=>bnd (readCells P t b.1 b.2) fun v=>bnd (if steals h d=true then none else some (dem v)) fun v=>some (st.put d v)):=by
 cases hm:isMs h d
 ·rw[qcd];simp only[stepOp,hm,Bool.false_eq_true,if_false,opVal,opPure,qv,qz]
 ·rw[qdp];simp only[stepOp,hm,if_true];rfl
@[simp ↓] theorem qt3 {x}:stepOp P h C ⟨d,.nilCheck x,T,pos,af,g⟩ st=ms0 (isMs h d) (bnd (opPure P h ⟨d,.nilCheck x,T,pos,af,g⟩ st) fun v=>some (st.put d v)):=by
 cases hm:isMs h d
 ·rw[qag];simp only[stepOp,hm,Bool.false_eq_true,if_false,opVal,qv,qz]
 ·rw[qap];simp only[stepOp,hm,if_true];rfl
@[simp ↓] theorem qy9 {op t x y v}:stepOp P h C ⟨d,.binOp op t x y v,T,pos,af,g⟩ st=ms0 (isMs h d) (bnd (aeval st x) fun a=>bnd (aeval st y) fun b=>bnd (bin P op (isCst x||isCst y) t a b) fun v=>some (st.put d v)):=by
 cases hm:isMs h d
 ·rw[qag];simp only[stepOp,hm,Bool.false_eq_true,if_false,opVal,opPure,qv,qz]
 ·rw[qap];simp only[stepOp,hm,if_true];rfl
@[simp ↓] theorem q0h {op t x}:stepOp P h C ⟨d,.unOp op t x,T,pos,af,g⟩ st=ms0 (isMs h d) (bnd (aeval st x) fun a=>bnd (un op a) fun v=>some (st.put d v)):=by
 cases hm:isMs h d
 ·rw[qag];simp only[stepOp,hm,Bool.false_eq_true,if_false,opVal,opPure,qv,qz]
 ·rw[qap];simp only[stepOp,hm,if_true];rfl
@[simp ↓] theorem qv3 {t u x}:stepOp P h C ⟨d,.convert t u x,T,pos,af,g⟩ st=ms2 (isMs h d) (bnd (msConv P h t u x d st) fun p=>some (p.2.put d p.1)) (bnd (aeval st x) fun a=>bnd (conv P t u a) fun v=>some (st.put d v)):=by
 cases hm:isMs h d
 ·rw[qcd];simp only[stepOp,hm,Bool.false_eq_true,if_false,opVal,opPure,qv,qz]
 ·rw[qdp];simp only[stepOp,hm,if_true];rfl
@[simp ↓] theorem qnc {x y}:stepOp P h C ⟨d,.makeInterface x y,T,pos,af,g⟩ st=ms0 (isMs h d) (bnd (opPure P h ⟨d,.makeInterface x y,T,pos,af,g⟩ st) fun v=>some (st.put d v)):=by
 cases hm:isMs h d
 ·rw[qag];simp only[stepOp,hm,Bool.false_eq_true,if_false,opVal,qv,qz]
 ·rw[qap];simp only[stepOp,hm,if_true];rfl
@[simp ↓] theorem qt4 {x y z}:stepOp P h C ⟨d,.makeFunc (.func x) y z,T,pos,af,g⟩ st=ms0 (isMs h d) (bnd (opPure P h ⟨d,.makeFunc (.func x) y z,T,pos,af,g⟩ st) fun v=>some (st.put d v)):=by
 cases hm:isMs h d
 ·rw[qag];simp only[stepOp,hm,Bool.false_eq_true,if_false,opVal,qv,qz]
 ·rw[qap];simp only[stepOp,hm,if_true];rfl
@[simp ↓] theorem qst {x y z}:stepOp P h C ⟨d,.makeSlice x y z,T,pos,af,g⟩ st=ms2 (isMs h d) (bnd (msOp P h ⟨d,.makeSlice x y z,T,pos,af,g⟩ st) fun p=>some (p.2.put d p.1)) (bnd (opPure P h ⟨d,.makeSlice x y z,T,pos,af,g⟩ st) fun v=>some (st.put d v)):=by
 cases hm:isMs h d
 ·rw[qcd];simp only[stepOp,hm,Bool.false_eq_true,if_false,opVal,qv,qz]
 ·rw[qdp];simp only[stepOp,hm,if_true]
@[simp ↓] theorem qza {t x lo hi mx}:stepOp P h C ⟨d,.slice t x lo hi mx,T,pos,af,g⟩ st=ms2 (isMs h d) (bnd (msSlice P t x lo hi mx st) fun p=>some (p.2.put d p.1)) (bnd (aeval st x) fun v=>bnd (aevalO st lo) fun lo=>bnd (aevalO st hi) fun hi=>bnd (aevalO st mx) fun mx=>bnd (sliceA P t v lo hi mx) fun v=>some (st.put d v)):=by
 cases hm:isMs h d
 ·rw[qcd];simp only[stepOp,hm,Bool.false_eq_true,if_false,opVal,opPure,qv,qz]
 ·rw[qdp];simp only[stepOp,hm,if_true];rfl
@[simp ↓] theorem qsu {t x f}:stepOp P h C ⟨d,.fieldAddr t x f,T,pos,af,g⟩ st=ms0 (isMs h d) (bnd (aeval st x) fun a=>bnd (fieldAddrA P t a f) fun v=>some (st.put d v)):=by
 cases hm:isMs h d
 ·rw[qag];simp only[stepOp,hm,Bool.false_eq_true,if_false,opVal,opPure,qv,qz]
 ·rw[qap];simp only[stepOp,hm,if_true];rfl
@[simp ↓] theorem qzb {x y z}:stepOp P h C ⟨d,.field x y z,T,pos,af,g⟩ st=ms0 (isMs h d) (bnd (opPure P h ⟨d,.field x y z,T,pos,af,g⟩ st) fun v=>some (st.put d v)):=by
 cases hm:isMs h d
 ·rw[qag];simp only[stepOp,hm,Bool.false_eq_true,if_false,opVal,qv,qz]
 ·rw[qap];simp only[stepOp,hm,if_true];rfl
@[simp ↓] theorem qsv {t x i}:stepOp P h C ⟨d,.indexAddr t x i,T,pos,af,g⟩ st=ms0 (isMs h d) (bnd (aeval st x) fun a=>bnd (aeval st i) fun i=>bnd (indexAddrA P t a i) fun v=>some (st.put d v)):=by
 cases hm:isMs h d
 ·rw[qag];simp only[stepOp,hm,Bool.false_eq_true,if_false,opVal,opPure,qv,qz]
 ·rw[qap];simp only[stepOp,hm,if_true];rfl
@[simp ↓] theorem qzc {t x i}:stepOp P h C ⟨d,.index t x i,T,pos,af,g⟩ st=ms0 (isMs h d) (bnd (aeval st x) fun a=>bnd (aeval st i) fun i=>bnd (indexA P t a i) fun v=>some (st.put d (dem v))):=by
 cases hm:isMs h d
 ·rw[qag];simp only[stepOp,hm,Bool.false_eq_true,if_false,opVal,opPure,qv,qz]
 ·rw[qap];simp only[stepOp,hm,if_true];rfl
@[simp ↓] theorem qw5 {t x i}:stepOp P h C ⟨d,.lookup t x i false,T,pos,af,g⟩ st=ms0 (isMs h d) (bnd (aeval st x) fun a=>bnd (aeval st i) fun i=>bnd (lookA P t a i) fun v=>some (st.put d (dem v))):=by
 cases hm:isMs h d
 ·rw[qag];simp only[stepOp,hm,Bool.false_eq_true,if_false,opVal,opPure,qv,qz]
 ·rw[qap];simp only[stepOp,hm,if_true];rfl
@[simp ↓] theorem q0i {c}:stepOp P h C ⟨d,.call c,T,pos,af,g⟩ st=ms2 (isMs h d) (bnd (msOp P h ⟨d,.call c,T,pos,af,g⟩ st) fun p=>some (p.2.put d p.1)) (bnd (callA P h C d c st) fun p=>some (p.2.put d p.1)):=by
 cases hm:isMs h d
 ·rw[qcd];simp only[stepOp,hm,Bool.false_eq_true,if_false,opVal]
 ·rw[qdp];simp only[stepOp,hm,if_true]
@[simp ↓] theorem qw6 {x y t t'}:msOp P h ⟨d,.call ⟨.builtin .append,#[x,y],#[t,t']⟩,T,pos,af,g⟩ st=msAppend P h t t' x y d st:=nrfl rfl
@[simp ↓] theorem q0j {x y t t'}:msOp P h ⟨d,.call ⟨.builtin .copy,#[x,y],#[t,t']⟩,T,pos,af,g⟩ st=msCopy P t t' x y st:=nrfl rfl
@[simp ↓] theorem qzd {t}:stepOp P h C ⟨d,.alloc t,T,pos,af,g⟩ st=bnd (zeroA P t) fun z=>newBox h d t z.cells st:=nrfl rfl
@[simp ↓] theorem step_box {t x}:stepOp P h C ⟨d,.box t x,T,pos,af,g⟩ st=bnd (takeOp st x) fun p=>if pers p.1=true then bnd (norm P t p.1) fun v=>newBox h d t v.cells p.2 else none:=nrfl rfl
@[simp ↓] theorem qze {t a x}:stepOp P h C ⟨none,.store t a x,T,pos,af,g⟩ st=storeA P t a x st:=nrfl rfl
@[simp ↓] theorem qzf {f xs ts}:callA P h C d ⟨.value f,xs,ts⟩ st=bnd (aeval st f) fun g=>match g with
  | .fn g cap=>if g<100000 then bnd (aevals st xs.toList) fun as=>bnd (args as) fun as=>bnd (moved st xs.toList as (mvI h d)) fun q=>bnd (C (vary h d g) (q.1++cap) q.2.s) fun r=>some (r.1,{q.2 with s:=r.2}) else none
  | .fb g fs=>if g<100000 then bnd (aevals st xs.toList) fun as=>bnd (args as) fun as=>bnd (C (vary h d g) (fs++as) st.s) fun r=>some (r.1,{st with s:=r.2}) else none
  | _=>none:=nrfl rfl
@[simp ↓] theorem qzg {st:St} {xs as}:moved st xs as none=some (as,st):=nrfl rfl
@[simp ↓] theorem qzh {st:St} {xs as i}:moved st xs as (some i)=bnd xs[i]? fun x=>bnd (takeOp st x) fun p=>match p.1 with
  | .sl (.ex ty sz) ys=>some (as.set i (.sl (.ex ty sz) ys),p.2)
  | .ms _ _ _ _ _=>some (as,st)
  | _=>none:=nrfl rfl
@[simp ↓] theorem qw7 {rv:Operand} {name:String} {xs ts}:callA P h C d ⟨.invoke rv name,xs,ts⟩ st=bnd (aeval st rv) fun v=>match v with
  | .ifc t v=>bnd (invF h d) fun g=>if g<100000∧pers v=true∧quiet v=true then need (meth P t g name) (bnd (aevals st xs.toList) fun as=>bnd (args as) fun as=>bnd (C (vary h d g) (v::as) st.s) fun r=>some (r.1,{st with s:=r.2})) else none
  | _=>none:=nrfl rfl
attribute [simp] invF mvI
@[simp ↓] theorem qw8 {x y t t'}:callA P h C d ⟨.builtin .append,#[x,y],#[t,t']⟩ st=appendA P t t' x y st:=nrfl rfl
@[simp ↓] theorem qzi {x t}:callA P h C d ⟨.builtin .clear,#[x],#[t]⟩ st=clearA P t x st:=nrfl rfl
@[simp ↓] theorem call_len {x t} : callA P h C d ⟨.builtin .len, #[x], #[t]⟩ st = bnd (aeval st x) fun v => match v with
      | .sl _ xs => if (elemA P t).isSome then some (.int .i64 xs.length, st) else none
      | .ms _ _ _ _ n => if (elemA P t).isSome then some (.int .i64 n, st) else none
      | .str s => need (P.underlying t = some .string) (some (.int .i64 s.length, st))
      | _ => none := by
  simp only [callA, builtP]
  show bnd (bnd (aeval st x) _) _ = _
  rw [qv]
  cases aeval st x with
  | none => rfl
  | some v =>
    cases v with
    | sl o xs => simp only [qz]; split <;> rfl
    | ms ty sz b off n => simp only [qz]; split <;> rfl
    | str s => simp only [qz, need]; split <;> rfl
    | _ => rfl
@[simp ↓] theorem call_min {x y ts} : callA P h C d ⟨.builtin .min, #[x, y], ts⟩ st = bnd (aeval st x) fun v => bnd (aeval st y) fun u => match v, u with
      | .int k a, .int _ b => some (.int k (if b < a then b else a), st)
      | _, _ => none := by
  simp only [callA, builtP]
  show bnd (bnd (aeval st x) _) _ = _
  rw [qv]
  cases aeval st x with
  | none => rfl
  | some v =>
    simp only [qz, qv]
    cases aeval st y with
    | none => rfl
    | some u => cases v <;> cases u <;> rfl
@[simp] theorem max4_int {k k1 k2 k3:IntKind} {a b c d:Int}:max4 (.int k a) (.int k1 b) (.int k2 c) (.int k3 d)=some (.int k (mxI (mxI (mxI a b) c) d)):=nrfl rfl
@[simp ↓] theorem q0k {x y z q ts}:callA P h C d ⟨.builtin .max,#[x,y,z,q],ts⟩ st=bnd (aeval st x) fun v=>bnd (aeval st y) fun u=>bnd (aeval st z) fun t=>bnd (aeval st q) fun r=>bnd (max4 v u t r) fun v=>some (v,st):=by
 simp only[callA,builtP,qv]
@[simp ↓] theorem call_max {x y ts} : callA P h C d ⟨.builtin .max, #[x, y], ts⟩ st = bnd (aeval st x) fun v => bnd (aeval st y) fun u => match v, u with
      | .int k a, .int _ b => some (.int k (if a < b then b else a), st)
      | _, _ => none := by
  simp only [callA, builtP]
  show bnd (bnd (aeval st x) _) _ = _
  rw [qv]
  cases aeval st x with
  | none => rfl
  | some v =>
    simp only [qz, qv]
    cases aeval st y with
    | none => rfl
    | some u => cases v <;> cases u <;> rfl
end
section
variable {d:Option Tmp} {n:Nat} {j i:Nat}
@[simp ↓] theorem qzj {t l s i}:aeval ⟨t,l,s⟩ (.tmp i)=look t i:=nrfl rfl
@[simp] theorem q0l {t}:aeval st (.tmp t)=look st.t t:=nrfl rfl
@[simp ↓] theorem qw9 {v}:aeval st (.const v)=ofVal v:=nrfl rfl
@[simp ↓] theorem qzk {f}:aeval st (.func f)=some (.fn f []):=nrfl rfl
@[simp ↓] theorem take_tmp' {t l s i}:takeOp ⟨t,l,s⟩ (.tmp i)=bnd (look t i) fun v=>some (v,⟨ins t i (dem v),l,s⟩):=nrfl rfl
@[simp] theorem take_tmp {t}:takeOp st (.tmp t)=bnd (look st.t t) fun v=>some (v,{st with t:=ins st.t t (dem v)}):=nrfl rfl
@[simp ↓] theorem take_const {v}:takeOp st (.const v)=bnd (ofVal v) fun v=>some (v,st):=nrfl rfl
@[simp ↓] theorem take_func {v}:takeOp st (.func v)=bnd (some (.fn v [])) fun v=>some (v,st):=nrfl rfl
@[simp ↓] theorem qt5 {α:Type}:look ([]:List (Nat×α)) i=none:=nrfl rfl
@[simp ↓] theorem qql {α:Type} {u:α} {r}:look ((j,u)::r) i=if j=i then some u else look r i:=nrfl rfl
@[simp ↓] theorem qxa {α:Type} {v:α}:ins [] i v=[(i,v)]:=nrfl rfl
@[simp ↓] theorem qt6 {α:Type} {u v:α} {r}:ins ((j,u)::r) i v=if j=i then (i,v)::r else (j,u)::ins r i v:=nrfl rfl
@[simp ↓] theorem qxb:mem [] i=false:=nrfl rfl
@[simp ↓] theorem mem_cons {r}:mem (j::r) i=if j=i then true else mem r i:=nrfl rfl
@[simp ↓] theorem qt7 {α:Type} {l}:keep l ([]:List (Nat×α))=[]:=nrfl rfl
@[simp ↓] theorem qqm {α:Type} {l} {u:α} {r}:keep l ((j,u)::r)=if mem l j=true then (j,u)::keep l r else keep l r:=nrfl rfl
@[simp ↓] theorem qt8 {α:Type} {l}:drop l ([]:List (Nat×α))=[]:=nrfl rfl
@[simp ↓] theorem qqn {α:Type} {l} {u:α} {r}:drop l ((j,u)::r)=if mem l j=true then drop l r else (j,u)::drop l r:=nrfl rfl
@[simp ↓] theorem qol:dropLp i []=[]:=nrfl rfl
@[simp ↓] theorem qlr {u r}:dropLp i ((j,u)::r)=if isLp i u=true then dropLp i r else (j,u)::dropLp i r:=nrfl rfl
@[simp] theorem put_some {v}:st.put (some n) v={st with t:=ins st.t n v}:=nrfl rfl
@[simp] theorem put_none {v}:st.put none v=st:=nrfl rfl
@[simp ↓] theorem qxc {ops}:wantedA ops none st=some true:=nrfl rfl
@[simp ↓] theorem qxd {ops j w}:wantedA ops (some (j,w)) st=match dstAt ops j with
  | some d=>bnd (look st.t d) fun v=>match v with
   | .bool b=>some (b==w)
   | .tup _=>some false
   | _=>none
  | none=>some false:=nrfl rfl
@[simp ↓] theorem qzl {o r}:dstAt (o::r) 0=o.dst:=nrfl rfl
@[simp ↓] theorem qzm {o r}:dstAt (o::r) (j+1)=dstAt r j:=nrfl rfl
@[simp ↓] theorem q0m {x}:lend st x true=takeOp st x:=nrfl rfl
@[simp ↓] theorem qzn {x}:lend st x false=bnd (aeval st x) fun v=>some (dem v,st):=nrfl rfl
@[simp ↓] theorem qb {ops}:regionA P h C ops true st=qgh (allocDs ops) fun ds=>strict (startD ds st) fun st=>runD P h C ds ops ops st:=nrfl rfl
@[simp ↓] theorem qt9 {ops}:regionA P h C ops false st=runOps P h C ops ops st:=nrfl rfl
@[simp ↓] theorem qxe:allocDs []=[]:=nrfl rfl
@[simp ↓] theorem qua {d t T pos af g r}:allocDs (⟨d,.alloc t,T,pos,af,g⟩::r)=d.toList++allocDs r:=nrfl rfl
@[simp ↓] theorem qxf {d t x T pos af g r}:allocDs (⟨d,.box t x,T,pos,af,g⟩::r)=d.toList++allocDs r:=nrfl rfl
@[simp ↓] theorem qv4 {o r}:allocDs (o::r)=match o.op with
  | .alloc _=>o.dst.toList++allocDs r
  | .box _ _=>o.dst.toList++allocDs r
  | _=>allocDs r:=nrfl rfl
end
attribute [simp] qt5 qql qxa qt6 qxb mem_cons qt7 qqm qt8 qqn qol qlr
attribute [simp ↓] qz qt0 thenE_normal thenE_ret thenE_exit thenE_none qlq qt1 qqi qok qnb qkb qqj
attribute [simp] opPure aevals aevalO isLp dem dem1 clean0 clean1 head rid ofVal qf0 ofVals pers finE outA resultsA resultsT resultA steals args arg argN demN params lend
attribute [simp] allowS seesS adS
attribute [simp] nat? bound? AV.cells writeCells boxOf setBox newBox isNilP startD dropAll preD postD okAll okLp boxR boxW rootT tkT wrT noLp parts storeA
section
variable {t:TypeId} {k:IntKind} {a b:Int} {c:Bool}
@[simp] theorem norm_int:norm P t (.int k a)=some (.int k a):=nrfl rfl
@[simp] theorem q0n {b}:norm P t (.bool b)=some (.bool b):=nrfl rfl
@[simp] theorem norm_str {s}:norm P t (.str s)=some (.str s):=nrfl rfl
@[simp] theorem norm_agg {s}:norm P t (.agg s)=some (.agg s):=nrfl rfl
@[simp] theorem norm_ex {e n xs}:norm P t (.sl (.ex e n) xs)=some (.sl (.ex e n) xs):=nrfl rfl
@[simp] theorem norm_sh {xs}:norm P t (.sl .sh xs)=some (.sl .sh xs):=nrfl rfl
@[simp] theorem norm_fn {f xs}:norm P t (.fn f xs)=some (.fn f xs):=nrfl rfl
@[simp] theorem norm_fb {f xs}:norm P t (.fb f xs)=some (.fb f xs):=nrfl rfl
@[simp] theorem norm_ifc {f xs}:norm P t (.ifc f xs)=some (.ifc f xs):=nrfl rfl
@[simp] theorem q0o:norm P t .nili=some .nili:=nrfl rfl
@[simp] theorem q0p:norm P t .nilf=some .nilf:=nrfl rfl
@[simp] theorem q0q:norm P t .nilp=some .nilp:=nrfl rfl
@[simp] theorem norm_vp {xs i}:norm P t (.vp xs i)=some (.vp xs i):=nrfl rfl
@[simp] theorem norm_lp {xs i}:norm P t (.lp xs i)=some (.lp xs i):=nrfl rfl
@[simp] theorem norm_gp {xs i sh}:norm P t (.gp xs i sh)=some (.gp xs i sh):=nrfl rfl
@[simp] theorem norm_ms {a1 a2 a3 a4 a5}:norm P t (.ms a1 a2 a3 a4 a5)=some (.ms a1 a2 a3 a4 a5):=nrfl rfl
@[simp] theorem norm_ifx:norm P t .ifx=some .ifx:=nrfl rfl
@[simp] theorem norm_any:norm P t .any=some .any:=nrfl rfl
@[simp] theorem norm_tup {xs}:norm P t (.tup xs)=some (.tup xs):=nrfl rfl
@[simp] theorem norm_nil {xs}:norm P t (.sl .nil xs)=match elemA P t with
  | some e=>bnd (sizeA P e) fun n=>some (.sl (.ex e n) xs)
  | none=>some (.sl .nil xs):=rfl
@[simp] theorem bin_add:bin P .add c t (.int k a) (.int k b)=some (.int k (k.wrap (a+b))):=by simp[bin,binI]
@[simp] theorem bin_sub:bin P .sub c t (.int k a) (.int k b)=some (.int k (k.wrap (a-b))):=by simp[bin,binI]
@[simp] theorem bin_mul:bin P .mul c t (.int k a) (.int k b)=some (.int k (k.wrap (a*b))):=by simp[bin,binI]
@[simp] theorem bin_quo:bin P .quo c t (.int k a) (.int k b)=if b=0 then none else some (.int k (k.wrap (a.tdiv b))):=by simp[bin,binI]
@[simp] theorem bin_rem:bin P .rem c t (.int k a) (.int k b)=if b=0 then none else some (.int k (a.tmod b)):=by simp[bin,binI]
@[simp] theorem bin_and:bin P .and c t (.int k a) (.int k b)=some (.int k (bits .and k a b)):=by simp[bin,binI]
@[simp] theorem bin_or:bin P .or c t (.int k a) (.int k b)=some (.int k (bits .or k a b)):=by simp[bin,binI]
@[simp] theorem bin_xor:bin P .xor c t (.int k a) (.int k b)=some (.int k (bits .xor k a b)):=by simp[bin,binI]
@[simp] theorem qzo:bin P .andNot c t (.int k a) (.int k b)=some (.int k (bits .andNot k a b)):=by simp[bin,binI]
@[simp] theorem bin_lss:bin P .lss c t (.int k a) (.int k b)=some (.bool (decide (a<b))):=by simp[bin,binI]
@[simp] theorem bin_leq:bin P .leq c t (.int k a) (.int k b)=some (.bool (decide (a≤b))):=by simp[bin,binI]
@[simp] theorem bin_gtr:bin P .gtr c t (.int k a) (.int k b)=some (.bool (decide (b<a))):=by simp[bin,binI]
@[simp] theorem bin_geq:bin P .geq c t (.int k a) (.int k b)=some (.bool (decide (b≤a))):=by simp[bin,binI]
@[simp] theorem bin_eql:bin P .eql c t (.int k a) (.int k b)=some (.bool (decide (a=b))):=by simp[bin,binI];rfl
@[simp] theorem bin_neq:bin P .neq c t (.int k a) (.int k b)=some (.bool (decide (a≠b))):=by simp[bin,binI];rw[Bool.eq_iff_iff];simp
@[simp] theorem bin_shl {k'}:bin P .shl c t (.int k a) (.int k' b)=if b<0 then none else some (.int k (k.wrap (a*2^min b.toNat k.bits))):=by simp only[bin]
@[simp] theorem bin_shr {k'}:bin P .shr c t (.int k a) (.int k' b)=if b<0 then none else some (.int k (a.fdiv (2^min b.toNat k.bits))):=by simp only[bin]
@[simp] theorem qxg {x y}:bin P .add c t (.str x) (.str y)=need (x.length+y.length≤most) (some (.str (x++y))):=nrfl rfl
@[simp] theorem qxh {x y}:bin P .eql c t (.str x) (.str y)=some (.bool (x==y)):=nrfl rfl
@[simp] theorem qxi {x y}:bin P .neq c t (.str x) (.str y)=some (.bool !(x==y)):=nrfl rfl
@[simp] theorem qxj {x y}:bin P .lss c t (.str x) (.str y)=some (.bool (Op.bytesLess x y)):=nrfl rfl
@[simp] theorem qxk {x y}:bin P .leq c t (.str x) (.str y)=some (.bool (Op.bytesLess x y||x==y)):=nrfl rfl
@[simp] theorem qxl {x y}:bin P .gtr c t (.str x) (.str y)=some (.bool !(Op.bytesLess x y||x==y)):=nrfl rfl
@[simp] theorem qxm {x y}:bin P .geq c t (.str x) (.str y)=some (.bool !(Op.bytesLess x y)):=nrfl rfl
@[simp] theorem qxn {x y}:bin P .eql c t (.agg x) (.agg y)=bnd (eqShape P t) fun ks=>bnd (eqCs ks x y) fun b=>some (.bool b):=nrfl rfl
@[simp] theorem qxo {x y}:bin P .neq c t (.agg x) (.agg y)=bnd (eqShape P t) fun ks=>bnd (eqCs ks x y) fun b=>some (.bool !b):=nrfl rfl
@[simp] theorem qv5:bin P .eql c t .nili .nili=if isIface P t&&(c||!true) then some (.bool true) else none:=nrfl rfl
@[simp] theorem qpf {u v}:bin P .eql c t (.ifc u v) .nili=if isIface P t&&(c||!false) then some (.bool false) else none:=nrfl rfl
@[simp] theorem qpg:bin P .eql c t .ifx .nili=if isIface P t&&(c||!false) then some (.bool false) else none:=nrfl rfl
@[simp] theorem qv6:bin P .neq c t .nili .nili=if isIface P t&&(c||!true) then some (.bool !true) else none:=nrfl rfl
@[simp] theorem qph {u v}:bin P .neq c t (.ifc u v) .nili=if isIface P t&&(c||!false) then some (.bool !false) else none:=nrfl rfl
@[simp] theorem qpi:bin P .neq c t .ifx .nili=if isIface P t&&(c||!false) then some (.bool !false) else none:=nrfl rfl
@[simp] theorem qv7:bin P .eql c t .nilf .nilf=if isFuncT P t then some (.bool true) else none:=nrfl rfl
@[simp] theorem qqo {u v}:bin P .eql c t (.fn u v) .nilf=if isFuncT P t then some (.bool false) else none:=nrfl rfl
@[simp] theorem qv8:bin P .neq c t .nilf .nilf=if isFuncT P t then some (.bool !true) else none:=nrfl rfl
@[simp] theorem qqp {u v}:bin P .neq c t (.fn u v) .nilf=if isFuncT P t then some (.bool !false) else none:=nrfl rfl
@[simp] theorem qv9 {o xs ys}:bin P .eql c t (.sl o xs) (.sl .nil ys)=bnd (isNilS (.sl o xs)) fun b=>if (elemA P t).isSome then some (.bool b) else none:=nrfl rfl
@[simp] theorem qwa {o xs ys}:bin P .neq c t (.sl o xs) (.sl .nil ys)=bnd (isNilS (.sl o xs)) fun b=>if (elemA P t).isSome then some (.bool !b) else none:=nrfl rfl
@[simp] theorem qqq {a1 a2 a3 a4 a5 ys}:bin P .eql c t (.ms a1 a2 a3 a4 a5) (.sl .nil ys)=if (elemA P t).isSome then some (.bool false) else none:=nrfl rfl
@[simp] theorem qqr {a1 a2 a3 a4 a5 ys}:bin P .neq c t (.ms a1 a2 a3 a4 a5) (.sl .nil ys)=if (elemA P t).isSome then some (.bool !false) else none:=nrfl rfl
@[simp] theorem qwb {x y}:bin P .eql c t (.bool x) (.bool y)=need (P.underlying t=some .bool) (some (.bool (x==y))):=nrfl rfl
@[simp] theorem qwc {x y}:bin P .neq c t (.bool x) (.bool y)=need (P.underlying t=some .bool) (some (.bool !(x==y))):=nrfl rfl
@[simp] theorem un_not {x}:un .not (.bool x)=some (.bool !x):=nrfl rfl
@[simp] theorem un_neg:un .neg (.int k a)=some (.int k (k.wrap (0-a))):=nrfl rfl
@[simp] theorem un_xor:un .xor (.int k a)=some (.int k (bits .xor k (if k.signed then -1 else k.max) a)):=nrfl rfl
end
attribute [simp ↓] qp1 qti qp2 qp3 qtj qog
@[simp ↓] theorem qwd {i l d}:EXEC P h C (.region i (List.toArray l) d) st=strict (clean0 h st) fun st=>bnd (regionA P h C l d st) fun st=>some (.normal,clean1 h st):=by rw[qlj];rfl
def structA (P:Program) (t:TypeId):Option (List (Nat×Nat)) :=
 match P.underlying t with
 | some (.struct fs)=>placesA P fs.toList
 | _=>none
def buildPl (P:Program) (t:TypeId):Option (Nat→Option (Nat×Nat)) :=
 match P.underlying t with
 | some (.struct fs)=>bnd (placesA P fs.toList) fun pl=>some fun i=>pl[i]?
 | some (.array _ e)=>bnd (sizeA P e) fun sz=>some fun i=>some (i*sz,sz)
 | _=>none
@[simp ↓] theorem qzp {d:Option Tmp} {t:TypeId} {ps:Array (Nat×Operand)} {T:TypeId} {pos:String} {af:Array Edge} {g:Option (Nat×Bool)} :
  stepOp P h C ⟨d,.build t ps,T,pos,af,g⟩ st=ms0 (isMs h d) (bnd (zeroA P t) fun z=>bnd (parts st ps.toList) fun l=>bnd (buildPl P t) fun pl=>bnd (fillA pl z.cells l) fun cs=>some (st.put d (.agg cs))):=by
 cases hm:isMs h d
 ·rw[qag]
  simp only[stepOp,hm,Bool.false_eq_true,if_false,opVal,opPure,qv,qz,buildPl]
  cases P.underlying t with
  | none=>rfl
  | some dsc=>cases dsc<;>first|rfl|(simp only[qv,qz])
 ·rw[qap];simp only[stepOp,hm,if_true];rfl
attribute [simp] fillA setA
def Post (o:Option (Ex×St)) (K:Ex→St→Prop):Prop:=∃e st,o=some (e,st)∧K e st
@[congr] theorem qzq {x y:Option (Ex×St)} {K:Ex→St→Prop} (e:x=y):Post x K=Post y K:=by rw[e]
@[simp] theorem qqs {e:Ex} {s:St} {K:Ex→St→Prop}:Post (some (e,s)) K↔K e s:=by
 constructor
 ·rintro⟨e',s',h,k⟩
  simp only[Option.some.injEq,Prod.mk.injEq] at h
  obtain⟨rfl,rfl⟩:=h
  exact k
 ·exact fun k=>⟨e,s,rfl,k⟩
@[simp] theorem qqt {K:Ex→St→Prop}:Post none K↔False:=by
 constructor
 ·rintro⟨_,_,h,_⟩;cases h
 ·exact False.elim
attribute [simp ↓] qqs qqt
def thenK (k:St→Option (Ex×St)) (K:Ex→St→Prop):Ex→St→Prop
 | .normal,st=>Post (k st) K
 | e,st=>K e st
def blkK (id:Nat) (K:Ex→St→Prop):Ex→St→Prop
 | .exit id',st=>if id'=id then K .normal st else K (.exit id') st
 | e,st=>K e st
@[congr] theorem thenK_congr {k:St→Option (Ex×St)} {K:Ex→St→Prop} {e e':Ex} {s s':St} (h1:e=e') (h2:s=s'):thenK k K e s=thenK k K e' s':=by rw[h1,h2]
@[congr] theorem qzr {i:Nat} {K:Ex→St→Prop} {e e':Ex} {s s':St} (h1:e=e') (h2:s=s'):blkK i K e s=blkK i K e' s':=by rw[h1,h2]
@[simp ↓] theorem thenK_normal {k:St→Option (Ex×St)} {K:Ex→St→Prop} {s:St}:thenK k K .normal s↔Post (k s) K:=Iff.rfl
@[simp ↓] theorem thenK_ret {k:St→Option (Ex×St)} {K:Ex→St→Prop} {s:St}:thenK k K .ret s↔K .ret s:=Iff.rfl
@[simp ↓] theorem thenK_exit {k:St→Option (Ex×St)} {K:Ex→St→Prop} {s:St} {i}:thenK k K (.exit i) s↔K (.exit i) s:=Iff.rfl
@[simp ↓] theorem qxp {i} {K:Ex→St→Prop} {s:St}:blkK i K .normal s↔K .normal s:=Iff.rfl
@[simp ↓] theorem blkK_ret {i} {K:Ex→St→Prop} {s:St}:blkK i K .ret s↔K .ret s:=Iff.rfl
@[simp ↓] theorem q0r {i j} {K:Ex→St→Prop} {s:St}:blkK i K (.exit j) s↔if j=i then K .normal s else K (.exit j) s:=Iff.rfl
@[simp ↓] theorem qom {x:Option (Ex×St)} {k:St→Option (Ex×St)} {K:Ex→St→Prop}:Post (thenE x k) K↔Post x (thenK k K):=by
 cases x with
 | none=>simp
 | some p=>obtain⟨e,s⟩:=p;cases e<;>simp
@[simp ↓] theorem q0s {x:Option (Ex×St)} {i} {K:Ex→St→Prop}:Post (blkE i x) K↔Post x (blkK i K):=by
 cases x with
 | none=>constructor<;>rintro⟨_,_,h,_⟩<;>cases h
 | some p=>obtain⟨e,s⟩:=p;cases e<;>simp;split<;>simp
def roundK {α:Type} (h:Hint) (id:Nat) (I:α→St) (Pr:α→Prop) (μ:α→Nat) (x:α) (K:Ex→St→Prop):Ex→St→Prop
 | .normal,st=>∃y,Pr y∧μ y<μ x∧head h id st=I y
 | e,st=>K e st
@[congr] theorem qwe {α:Type} {id:Nat} {I:α→St} {Pr:α→Prop} {μ:α→Nat} {x:α} {K:Ex→St→Prop} {e e':Ex} {s s':St} (h1:e=e') (h2:s=s'):roundK h id I Pr μ x K e s=roundK h id I Pr μ x K e' s':=by rw[h1,h2]
@[simp ↓] theorem qub {α:Type} {id:Nat} {I:α→St} {Pr:α→Prop} {μ:α→Nat} {x:α} {K:Ex→St→Prop} {s:St}:roundK h id I Pr μ x K .normal s↔∃y,Pr y∧μ y<μ x∧head h id s=I y:=Iff.rfl
@[simp ↓] theorem qzs {α:Type} {id:Nat} {I:α→St} {Pr:α→Prop} {μ:α→Nat} {x:α} {K:Ex→St→Prop} {s:St}:roundK h id I Pr μ x K .ret s↔K .ret s:=Iff.rfl
@[simp ↓] theorem qxq {α:Type} {id:Nat} {I:α→St} {Pr:α→Prop} {μ:α→Nat} {x:α} {K:Ex→St→Prop} {s:St} {i}:roundK h id I Pr μ x K (.exit i) s↔K (.exit i) s:=Iff.rfl
theorem qf {α:Type} (I:α→St) (Pr:α→Prop) (μ:α→Nat) (a:α) {c:Code} {s:St} {K:Ex→St→Prop} (h0:head h (rid c) s=I a) (hp:Pr a)
  (hs:∀x,Pr x→Post (EXEC P h C c (I x)) (roundK h (rid c) I Pr μ x K)):Post (EXEC P h C (.loop c) s) K:=by
 have key:∀n x s,μ x=n→Pr x→head h (rid c) s=I x→Post (EXEC P h C (.loop c) s) K:=by
  intro n
  induction n using Nat.strongRecOn with
  | _ n ih =>
   intro x s hn hx hh
   rw[qp4,hh,qom]
   obtain⟨e,s1,h1,h2⟩:=hs x hx
   refine⟨e,s1,h1,?_⟩
   cases e with
   | normal=>obtain⟨y,hy,hlt,hd⟩:=h2;exact ih (μ y) (hn▸hlt) y s1 rfl hy hd
   | _=>exact h2
 exact key _ a s rfl hp h0
theorem q9 {H:FuncId→Hint} {T:Table} {f:FuncId} {fn:Func} {c:Code} {as:List AV} {s:List (List AV)} {r:AV×List (List AV)} (hT:T f=none) (hf:P.funcs[AI.base f]? = some fn) (hb:fn.body=some c)
  (hn:as.length≤fn.ntmps) (hc:codeOk (H f) fn.ntmps c=true) (hg:(fn.name== "runtime.NumGoroutine")=false)
  (hp:Post (EXEC P (H f) (EV P H T) c ⟨params 0 as,[],s⟩) fun e st=>finE P (H f) s fn (some (e,st))=some r) (h9:f<900000:=by decide):EV P H T f as s=some r:=by
 rw[qwy hT h9 hf]
 unfold body
 rw[hb]
 simp only[bnd]
 rw[if_pos ⟨hn,hc,hg⟩]
 obtain⟨e,st,h1,h2⟩:=hp
 rw[h1];exact h2
end
theorem qh {n:Int} (h:-9223372036854775808≤n∧n≤9223372036854775807):IntKind.i64.wrap n=n:=by
 simp only[IntKind.wrap,IntKind.signed,IntKind.bits];simp;split<;>omega
theorem qnd {n:Int} (h:0≤n∧n<256):IntKind.u8.wrap n=n:=by
 simp only[IntKind.wrap,IntKind.signed,IntKind.bits];simp;omega
theorem qxr {n:Int} (h:0≤n∧n<18446744073709551616):IntKind.u64.wrap n=n:=by
 simp only[IntKind.wrap,IntKind.signed,IntKind.bits];simp;omega
end Go.AI
end
section
namespace Go.AI
set_option linter.unusedVariables false
section
variable {P:Program} {h:Hint} {C:Oracle} {st:St} {d:Option Tmp} {n:Nat} {T:TypeId} {pos:String} {af:Array Edge} {g:Option (Nat×Bool)}
@[simp] theorem q0t {n:Nat}:isMs h (some n)=mem h.msd n:=nrfl rfl
@[simp] theorem q0u:isMs h none=false:=nrfl rfl
@[simp] theorem qxs {n:Nat}:isGlob h (some n)=mem h.glob n:=nrfl rfl
@[simp] theorem qxt:isGlob h none=false:=nrfl rfl
attribute [simp] conv readCells fieldAddrA indexAddrA indexA sliceA appendA clearA srcA
attribute [simp] msOp msLoad msSlice rootT msConv msAppend msCopy srcM vary
attribute [simp] endA freezeT freezeL freeze1 freezeC weakT weak isNilS isNilP isCst
@[simp] theorem flat_nil:flat []=[]:=nrfl rfl
@[simp] theorem flat_cons {x:AV} {r:List AV}:flat (x::r)=x.cells++flat r:=nrfl rfl
theorem flat_map {α:Type} (f:α→AV) (hf:∀x,(f x).cells=[f x]) (l:List α):flat (l.map f)=l.map f:=by
 induction l with
 | nil=>rfl
 | cons x r ih=>rw[List.map_cons,flat_cons,hf,ih];rfl
@[simp] theorem flat_u8 {l:List UInt8}:flat (l.map .u8)=l.map .u8:=flat_map _ (fun _=>rfl) l
@[simp] theorem flat_str {l:List (List UInt8)}:flat (l.map .str)=l.map .str:=flat_map _ (fun _=>rfl) l
@[simp] theorem flat_int {k:IntKind} {l:List Int}:flat (l.map (.int k))=l.map (.int k):=flat_map _ (fun _=>rfl) l
@[simp] theorem flat_rep_int {k:IntKind} {m:Int} {n:Nat}:flat (List.replicate n (.int k m))=List.replicate n (.int k m):=by
 induction n with
 | zero=>rfl
 | succ n ih=>rw[List.replicate_succ,flat_cons,ih];rfl
@[simp] theorem flat_rep_str {m:List UInt8} {n:Nat}:flat (List.replicate n (.str m))=List.replicate n (.str m):=by
 induction n with
 | zero=>rfl
 | succ n ih=>rw[List.replicate_succ,flat_cons,ih];rfl
theorem qls {α:Type} (f:α→AV) (hf:∀x,dem (f x)=f x) (l:List α):(l.map f).map dem=l.map f:=by
 rw[List.map_map];exact List.map_congr_left fun x _=>hf x
@[simp high] theorem qzt {l:List UInt8}:(l.map AV.u8).map dem=l.map .u8:=qls _ (fun _=>rfl) l
@[simp high] theorem qxu {l:List (List UInt8)}:(l.map AV.str).map dem=l.map .str:=qls _ (fun _=>rfl) l
@[simp high] theorem qxv {k:IntKind} {l:List Int}:(l.map (AV.int k)).map dem=l.map (.int k):=qls _ (fun _=>rfl) l
def els2 (g:Bool) (m sz:Nat) (cs:List AV) (off n:Nat):Option (List AV):=if m=sz∧0<sz∧(g=true∨sz=1)∧off+n*sz≤cs.length then
  some ((List.range n).map fun i=>elt g (((cs.drop (off+i*sz)).take sz).map dem)) else none
@[simp] theorem qwf {ty sz:Nat} {cs:List AV} {off n:Nat}:readEls P ty sz cs off n=bnd (isAggA P ty) fun g=>bnd (sizeA P ty) fun m=>els2 g m sz cs off n:=nrfl rfl
@[simp] theorem els2_one {cs:List AV} {off n:Nat}:els2 false 1 1 cs off n=if off+n≤cs.length then some (((cs.drop off).take n).map dem) else none:=by
 unfold els2
 by_cases hc:off+n≤cs.length
 ·rw[if_pos hc,if_pos (by simp;omega)]
  congr 1
  apply List.ext_getElem?
  intro i
  simp only[List.getElem?_map]
  by_cases hi:i<n
  ·rw[List.getElem?_range hi,List.getElem?_take,if_pos hi,List.getElem?_drop]
   have hlt:off+i*1<cs.length:=by omega
   rw[Option.map_some,List.drop_eq_getElem_cons hlt,List.getElem?_eq_getElem (by omega)]
   simp only[Nat.mul_one,List.take_succ_cons,List.take_zero,List.map_cons,List.map_nil,elt,Option.map_some]
  ·rw[List.getElem?_eq_none (by simpa using Nat.le_of_not_lt hi),List.getElem?_eq_none (by simp;omega)];rfl
 ·rw[if_neg hc,if_neg (by simp;omega)]
@[simp] theorem qne {m sz:Nat} {cs:List AV} {off n:Nat}:els2 true m sz cs off n=if m=sz∧0<sz∧off+n*sz≤cs.length then some ((List.range n).map fun i=>.agg (((cs.drop (off+i*sz)).take sz).map dem)) else none:=by
 unfold els2
 simp only[true_or,true_and]
 rfl
section
variable {sz:Nat} {a b:List AV} {x:AV}
@[simp] theorem qwg:allCells sz []↔True:=⟨fun _=>trivial,fun _ x hx=>by cases hx⟩
@[simp] theorem quc:allCells sz (x::a)↔(x.cells.length=sz∧∀c∈x.cells,plain c=true)∧allCells sz a:=by
 simp only[allCells,List.forall_mem_cons]
@[simp] theorem qwh:allCells sz (a++b)↔allCells sz a∧allCells sz b:=by simp only[allCells,List.forall_mem_append]
@[simp] theorem qxw {l:List UInt8}:allCells 1 (l.map .u8)↔True:=⟨fun _=>trivial,fun _ x hx=>by
 obtain⟨b,_,rfl⟩:=List.mem_map.1 hx;exact⟨rfl,fun c hc=>by simp[AV.u8,AV.cells] at hc;subst hc;rfl⟩⟩
@[simp] theorem qwi {l:List (List UInt8)}:allCells 1 (l.map .str)↔True:=⟨fun _=>trivial,fun _ x hx=>by
 obtain⟨b,_,rfl⟩:=List.mem_map.1 hx;exact⟨rfl,fun c hc=>by simp[AV.cells] at hc;subst hc;rfl⟩⟩
@[simp] theorem qwj {k:IntKind} {l:List Int}:allCells 1 (l.map (.int k))↔True:=⟨fun _=>trivial,fun _ x hx=>by
 obtain⟨b,_,rfl⟩:=List.mem_map.1 hx;exact⟨rfl,fun c hc=>by simp[AV.cells] at hc;subst hc;rfl⟩⟩
@[simp] theorem qwk {l:List (List UInt8)}:allCells 1 (l.map fun s=>.sl .sh (s.map .u8))↔True:=⟨fun _=>trivial,fun _ x hx=>by
 obtain⟨b,_,rfl⟩:=List.mem_map.1 hx;exact⟨rfl,fun c hc=>by simp[AV.cells] at hc;subst hc;rfl⟩⟩
end
attribute [simp] AV.u8 plain qaa quiet
section
variable {σ l:List (List AV)} {c x:List AV} {k:Nat}
@[simp] theorem app_get0:(σ++c::l)[σ.length]? = some c:=by simp
@[simp] theorem app_getk:(σ++l)[σ.length+k]? = l[k]?:=by rw[List.getElem?_append_right (by omega)];congr 1;omega
@[simp] theorem app_set0:(σ++c::l).set σ.length x=σ++x::l:=by simp
@[simp] theorem app_setk:(σ++l).set (σ.length+k) x=σ++l.set k x:=by rw[List.set_append_right _ _ (by omega)];congr 2;omega
@[simp] theorem lowS_app:lowS σ (σ++l)↔True:=⟨fun _=>trivial,fun _ b hb=>.inl (by rw[List.getElem?_append_left hb])⟩
@[simp] theorem q0v:lowS σ σ↔True:=⟨fun _=>trivial,fun _ b hb=>.inl rfl⟩
@[simp] theorem take_app:(σ++l).take σ.length=σ:=by simp
@[simp] theorem take_self:σ.take σ.length=σ:=by simp
theorem qfs {b:Nat} (hx:lowL σ.length x):lowS σ (σ.set b x):=by
 intro b' hb
 by_cases q:b=b'
 ·subst q;exact .inr ⟨x,by simp[hb],hx⟩
 ·exact .inl (by rw[List.getElem?_set,if_neg q])
@[simp] theorem take_set {b:Nat}:(σ.set b x).take σ.length=σ.set b x:=by rw[List.take_of_length_le (by simp)]
@[simp] theorem take_set_app {b:Nat}:(σ.set b x++l).take σ.length=σ.set b x:=by
 rw[show σ.length=(σ.set b x).length by simp];exact List.take_left
end
section
variable {n m:Nat}
@[simp] theorem low_gp {b i sh}:low n (.gp b i sh)↔b<n:=Iff.rfl
@[simp] theorem low_ms {a1 a2 a3 a4 a5}:low n (.ms a1 a2 a3 a4 a5)↔a3<n:=Iff.rfl
@[simp] theorem low_sl {o xs}:low n (.sl o xs)↔lowL n xs:=Iff.rfl
@[simp] theorem low_agg {xs}:low n (.agg xs)↔lowL n xs:=Iff.rfl
@[simp] theorem low_tup {xs}:low n (.tup xs)↔lowL n xs:=Iff.rfl
@[simp] theorem low_vp {xs i}:low n (.vp xs i)↔lowL n xs:=Iff.rfl
@[simp] theorem low_fn {f xs}:low n (.fn f xs)↔lowL n xs:=Iff.rfl
@[simp] theorem low_fb {f xs}:low n (.fb f xs)↔lowL n xs:=Iff.rfl
@[simp] theorem low_ifc {t v}:low n (.ifc t v)↔low n v:=Iff.rfl
@[simp] theorem low_int {k v}:low n (.int k v)↔True:=Iff.rfl
@[simp] theorem low_bool {v}:low n (.bool v)↔True:=Iff.rfl
@[simp] theorem low_str {v}:low n (.str v)↔True:=Iff.rfl
@[simp] theorem low_u8 {v}:low n (.u8 v)↔True:=Iff.rfl
@[simp] theorem low_nilp:low n .nilp↔True:=Iff.rfl
@[simp] theorem low_nilf:low n .nilf↔True:=Iff.rfl
@[simp] theorem low_nili:low n .nili↔True:=Iff.rfl
@[simp] theorem low_ifx:low n .ifx↔True:=Iff.rfl
@[simp] theorem low_any:low n .any↔True:=Iff.rfl
@[simp] theorem lowL_nil:lowL n []↔True:=Iff.rfl
@[simp] theorem qgi {x r}:lowL n (x::r)↔low n x∧lowL n r:=Iff.rfl
@[simp] theorem qlt {a b:List AV}:lowL n (a++b)↔lowL n a∧lowL n b:=by
 induction a with
 | nil=>simp
 | cons x r ih=>simp only[List.cons_append,qgi,ih,and_assoc]
@[simp] theorem lowL_map {α:Type} {f:α→AV} {l:List α}:lowL n (l.map f)↔∀x∈l,low n (f x):=by
 induction l with
 | nil=>simp
 | cons x r ih=>simp only[List.map_cons,qgi,ih,List.forall_mem_cons]
@[simp] theorem qsw {x:AV}:lowL n (List.replicate m x)↔m=0∨low n x:=by
 induction m with
 | zero=>simp
 | succ m ih=>rw[List.replicate_succ,qgi,ih];simp;intro hx;exact .inr hx
end
attribute [simp] eqCs eqSc
end
theorem dT {p:Prop} [Decidable p] (h:p):decide p=true:=decide_eq_true h
theorem dF {p:Prop} [Decidable p] (h:¬p):decide p=false:=decide_eq_false h
section
variable {P:Program} {h:Hint} {C:Oracle} {st:St}
end
end Go.AI
end
section
namespace Go.AI
open Go.RowKit
set_option linter.unusedVariables false
def gh0:Gh:={fr:=fun _=>0,bx:=fun _=>none}
theorem Sim.start {w:World} {as:List AV} {vs:Array Value} (hsz:vs.size=as.length)
  (hv:∀(j:Nat) (c:AV),as[j]? = some c→Rep w.heap.size gh0 w (vs.getD j undef) c∧pers c=true∧quiet c=true) :
  Sim w.heap.size (fun _=>False) gh0 w vs.size gh0 (fun _=>none) ⟨vs,[]⟩ w ⟨params 0 as,[],[]⟩:=by
 have hlook:∀i v,look (params 0 as) i=some v→as[i]? = some v:=fun i v e=>by rw[qa2] at e;simpa using e
 have hno:∀l k,own ⟨vs,[]⟩ (fun _=>none) gh0 w ⟨params 0 as,[],[]⟩ l≠some k:=by
  intro l k e
  cases l with
  | t i j =>
   simp only[own] at e
   cases hq:look (params 0 as) i with
   | none=>rw[hq] at e;cases e
   | some v =>
    rw[hq] at e
    have:=hv i v (hlook i v hq)
    cases j with
    | none=>simp only[Option.bind_some,ownV] at e;rw[qq this.2.2] at e;cases e
    | some j=>cases v<;>first|(simp[ownV] at e;done)|simp[pers] at this
  | l d=>simp[own,look] at e
  | lc d j=>simp[own,look,ownB] at e
  | g b=>simp[own] at e
  | gc b j=>simp[own,ownB] at e
 constructor
 ·rfl
 ·rfl
 ·exact Ext.refl _ _ _ _
 ·intro i v e
  have:=hv i v (hlook i v e)
  have ht:Tk1 w.heap.size gh0 w (vs.getD i undef) v:=qaf this.2.2
  cases v with
  | lp d i=>simp[pers] at this
  | tup xs=>simp[pers] at this
  | _=>exact⟨this.1,ht⟩
 ·intro d cs e;simp[look] at e
 ·intro b cs blk e;simp at e
 ·intro b _;rfl
 ·intro l l' k e;exact absurd e (hno l k)
 ·intro l k e;exact absurd e (hno l k)
 ·intro b _;rfl
 ·exact Nat.le_refl _
 ·rw[qd5];exact List.nodup_range'
 ·intro b hb;simp at hb
 ·rfl
theorem top {P:Program} (hm:P.follows .mixedOrders=true) {H:FuncId→Hint} {T:Table} {f:FuncId} {as:List AV} {vs:Array Value} {w:World} {b:Bool} {s':List (List AV)} (hfb:AI.base f=f) (hT:TableOk P w.heap.size w T)
  (hsz:vs.size=as.length) (hv:∀(j:Nat) (c:AV),as[j]? = some c→Rep w.heap.size gh0 w (vs.getD j undef) c∧pers c=true∧quiet c=true)
  (e:EV P H T f as []=some (.bool b,s')):Calls P f vs w fun e w'=>e=.returned (.bool b)∧Below w.heap.size w w':=by
 obtain⟨_,h⟩:=qim hT (fun _ _=>qai hm) _ _ _ _ _ e
 rw[hfb] at h
 refine (h (fun _=>False) gh0 w vs hsz (Below.refl _ _) (Sim.start hsz hv)).mono fun e w' hr=>?_
 obtain⟨v,μ',rfl,hs⟩:=hr
 refine⟨?_,hs.ext.below⟩
 have:=(hs.tmp 0 (.bool b) (by simp[look])).1
 generalize hq:(⟨#[v],[]⟩:Act).tmps.getD 0 undef=u at this
 have hu:u=v:=by rw[← hq];rfl
 subst hu
 cases this
 rfl
end Go.AI
end
section
namespace Go.AI
open Go.RowKit
set_option linter.unusedVariables false
theorem belowHeap {n:Nat} {w w':World} (h:Below n w w') {b:Nat} (hb:b<n):w'.heap[b]? = w.heap[b]?:=h.block b hb
structure Told (v:Value) (r:AV):Prop where
 full:∀(B:Nat) (μ:Gh) (w:World),Full B μ (fun _=>none) w v r
 own:∀j,ownV v r j=none
 nl:∀d i,r≠.lp d i
theorem Told.int (k:IntKind) (n:Int):Told (.int k n) (.int k n):=⟨fun _ _ _=>⟨.int _ _,trivial⟩,fun j=>by cases j<;>rfl,by simp⟩
theorem Told.bool (b:Bool):Told (.bool b) (.bool b):=⟨fun _ _ _=>⟨.bool _,trivial⟩,fun j=>by cases j<;>rfl,by simp⟩
theorem Told.str (l:List UInt8):Told (.string ⟨l.toArray⟩) (.str l):=⟨fun _ _ _=>⟨by have:=Rep.str (B:=‹_›) (μ:=‹_›) (w:=‹_›) ⟨l.toArray⟩;simpa using this,trivial⟩,fun j=>by cases j<;>rfl,by simp⟩
theorem Told.intErr (n:Int) (t:TypeId) (p:Value):Told (.tuple #[.int .i64 n,.iface t p]) (.tup [.int .i64 n,.ifx]) :=
 ⟨fun B μ w=>⟨.tup _ _ rfl fun j c hc=>by
   match j,hc with
   | 0,hc=>simp at hc;subst hc;exact .int _ _
   | 1,hc=>simp at hc;subst hc;exact .ifx _ _
   | j+2,hc=>simp at hc,fun j c hc=>by
   match j,hc with
   | 0,hc=>simp at hc;subst hc;trivial
   | 1,hc=>simp at hc;subst hc;trivial
   | j+2,hc=>simp at hc⟩,fun j=>by
   match j with
   | none=>rfl
   | some 0=>rfl
   | some 1=>rfl
   | some (j+2)=>rfl,by simp⟩
theorem Told.intNil (n:Int):Told (.tuple #[.int .i64 n,.nilIface]) (.tup [.int .i64 n,.nili]) :=
 ⟨fun B μ w=>⟨.tup _ _ rfl fun j c hc=>by
   match j,hc with
   | 0,hc=>simp at hc;subst hc;exact .int _ _
   | 1,hc=>simp at hc;subst hc;exact .nili
   | j+2,hc=>simp at hc,fun j c hc=>by
   match j,hc with
   | 0,hc=>simp at hc;subst hc;trivial
   | 1,hc=>simp at hc;subst hc;trivial
   | j+2,hc=>simp at hc⟩,fun j=>by
   match j with
   | none=>rfl
   | some 0=>rfl
   | some 1=>rfl
   | some (j+2)=>rfl,by simp⟩
theorem qdq {P:Program} {B:Nat} {W0:World} {f:FuncId} {as:List AV} {s:List (List AV)} {r:AV}
  (h:∀(w:World) (vs:Array Value),vs.size=as.length→Below B W0 w→(∀(j:Nat) (c:AV),as[j]? = some c→∃(μ:Gh),Rep B μ w (vs.getD j undef) c∨isTup c=true∨∃d i,c=.lp d i) →
   Calls P f vs w fun e w'=>∃v,e=.returned v∧Told v r∧Below w.heap.size w w'):ACalls P B W0 f as s r s:=by
 intro T μ w vs hsz hW hs
 have hlook:∀i v,as[i]? = some v→look (params 0 as) i=some v:=fun i v e=>by rw[qa2];simpa using e
 refine (h w vs hsz hW fun j c hc=>⟨μ,?_⟩).mono fun e w' hx=>?_
 ·have:=hs.tmp j c (hlook j c hc)
  cases c with
  | lp d i=>exact .inr (.inr ⟨_,_,rfl⟩)
  | _=>exact .inl this.1
 ·obtain⟨v,rfl,ht,hb⟩:=hx
  have hlt:∀b s,w.shape? b=some s→b<w.heap.size:=fun b s e=>by
   rcases Nat.lt_or_ge b w.heap.size with q|q
   ·exact q
   ·simp[World.shape?,Array.getElem?_eq_none q] at e
  have x:Ext B (fun _=>False) μ w μ w' :=
   ⟨hb.mono hs.hB,fun b hb' _=>⟨belowHeap hb hb',rfl⟩,fun b j hb' _=>qbd (belowHeap hb hb'),fun b _=>Nat.le_refl _,fun b k e=>e,
    fun b s e=>by simpa[World.shape?,belowHeap hb (hlt b s e)] using e,fun r es c e=>by rw[belowHeap hb (Array.getElem?_eq_some_iff.1 e).1];exact e,fun h=>h⟩
  have hsz':=hb.size
  obtain⟨k1,k2⟩:=hs.grow x (fun _ _ _ h=>h) (fun _ _ h=>h.elim) (fun b hb=>hs.gdom b hb) (fun b hb'=>hs.fr0 b (by omega)) (fun b _=>rfl)
  exact⟨v,μ,rfl,k1.out (.mk' (by have:=ht.full B μ w';exact this) ht.own) ht.nl⟩
theorem qlu {P:Program} {B:Nat} {W0:World} {f:FuncId} {as:List AV} {s:List (List AV)} {xs:List (List UInt8)} {t:TypeId} (hx:xs.length≤maxLen)
  (h:∀(w:World) (vs:Array Value),vs.size=as.length→Below B W0 w→(∀(j:Nat) (c:AV),as[j]? = some c→∃(μ:Gh),Rep B μ w (vs.getD j undef) c∨isTup c=true∨∃d i,c=.lp d i) →
   Calls P f vs w fun e w'=>e=.returned (.slice (some ⟨w.heap.size,0,none⟩) xs.length xs.length)∧w'=w.alloc (.cells (xs.map fun l=>Value.string ⟨l.toArray⟩).toArray t)):ACalls P B W0 f as s (.sl (.ex t 1) (xs.map .str)) s:=by
 intro T μ w vs hsz hW hs
 have hlook:∀i v,as[i]? = some v→look (params 0 as) i=some v:=fun i v e=>by rw[qa2];simpa using e
 refine (h w vs hsz hW fun j c hc=>⟨μ,?_⟩).mono fun e w' hx'=>?_
 ·have:=hs.tmp j c (hlook j c hc)
  cases c with
  | lp d i=>exact .inr (.inr ⟨_,_,rfl⟩)
  | _=>exact .inl this.1
 ·obtain⟨rfl,rfl⟩:=hx'
  obtain⟨k1,k2⟩:=hs.fresh (vs:=(xs.map fun l=>Value.string ⟨l.toArray⟩).toArray) (ty:=t) (els:=xs.map .str) (sz:=1) (cap:=xs.length) (by omega) (by simp) hx (by simp)
   (fun y hy=>by obtain⟨b,_,rfl⟩:=List.mem_map.1 hy;exact⟨rfl,fun c hc=>by simp[AV.cells] at hc;subst hc;rfl⟩)
   (fun i j c hc=>by
    rw[List.getElem?_map] at hc
    cases hi:xs[i]? with
    | none=>rw[hi] at hc;cases hc
    | some l =>
     rw[hi] at hc
     simp only[Option.map_some,Option.bind_some,AV.cells] at hc
     cases j with
     | zero =>
      simp only[List.getElem?_cons_zero,Option.some.injEq] at hc
      subst hc
      have hv:((xs.map fun l=>Value.string ⟨l.toArray⟩).toArray).getD (i*1+0) undef=.string ⟨l.toArray⟩:=by
       simp only[Nat.mul_one,Nat.add_zero,Array.getD_eq_getD_getElem?,List.getElem?_toArray,List.getElem?_map,hi];rfl
      rw[hv]
      have:=Rep.str (B:=B) (μ:=μ) (w:=w) ⟨l.toArray⟩
      simpa using this
     | succ j=>simp at hc)
  refine⟨_,_,rfl,k1.out ?_ (by simp)⟩
  simpa using k2
end Go.AI
end
section
namespace Go.AI
set_option linter.unusedVariables false
section
variable {P:Program} {h:Hint} {C:Oracle}
def PostD (x:Option St) (K:St→Prop):Prop:=∃s,x=some s∧K s
theorem qud {ds:List Nat} {ops r:List Oper} {st:St} {o:Oper} {K:St→Prop} (st1:St) (hw:wantedA ops o.guard st=some true) (hp:preD h o st=true) (hs:stepOp P h C o st=some st1)
  (hS:allowS h o=true∨st1.s=st.s) (hq:postD h ds o st1.t=true) (k:PostD (runD P h C ds ops r st1) K) (hA:adS h o=true→st1.s.take st.s.length=st.s:=by first|exact fun hh=>Bool.noConfusion hh|(intro _;simp)):PostD (runD P h C ds ops (o::r) st) K:=by
 rw[runD,hw,qnb,if_pos hp,hs,qz,need,if_pos ⟨hS,hA⟩,if_pos hq];exact k
theorem qaj {ds:List Nat} {ops r:List Oper} {st:St} {o:Oper} {K:St→Prop} (hw:wantedA ops o.guard st=some false) (hq:okAll ds st.t (tkT h o).toList=true)
  (k:PostD (runD P h C ds ops r (st.put o.dst (.tup []))) K):PostD (runD P h C ds ops (o::r) st) K:=by
 rw[runD,hw,qkb,if_pos hq];exact k
theorem qc {ds:List Nat} {ops:List Oper} {st:St} {K:St→Prop} (k:K st):PostD (runD P h C ds ops [] st) K:=⟨st,by rw[runD],k⟩
theorem qqu {ops:List Oper} {st:St} {F:St→St} {K:Ex→St→Prop} (ds:List Nat) (st0:St) (e:allocDs ops=ds) (e0:startD ds st=st0)
  (k:PostD (runD P h C ds ops ops st0) fun s=>K .normal (F s)):Post (bnd (regionA P h C ops true st) fun st=>some (Ex.normal,F st)) K:=by
 obtain⟨s,h1,h2⟩:=k
 rw[regionA,if_pos rfl,e,e0,h1];exact⟨_,_,rfl,h2⟩
theorem qd {ds:List Nat} {ops r:List Oper} {st:St} {o:Oper} {K:St→Prop} (st1:St) (hw:wantedA ops o.guard st=some true:=by rfl) (hp:preD h o st=true:=by rfl) (hs:stepOp P h C o st=some st1)
  (hS:allowS h o=true∨st1.s=st.s:=by first|exact .inl rfl|exact .inr rfl) (hq:postD h ds o st1.t=true:=by rfl) (k:PostD (runD P h C ds ops r st1) K) (hA:adS h o=true→st1.s.take st.s.length=st.s:=by first|exact fun hh=>Bool.noConfusion hh|(intro _;simp)):PostD (runD P h C ds ops (o::r) st) K :=
 qud st1 hw hp hs hS hq k hA
theorem qe {ds:List Nat} {ops r:List Oper} {st:St} {o:Oper} {K:St→Prop} (st1:St) (hw:wantedA ops o.guard st=some false:=by rfl) (hq:okAll ds st.t (tkT h o).toList=true:=by rfl)
  (hs:st.put o.dst (.tup [])=st1:=by simp (maxSteps:=4000000);exact rfl) (k:PostD (runD P h C ds ops r st1) K):PostD (runD P h C ds ops (o::r) st) K:=qaj hw hq (by rw[hs];exact k)
theorem qg {ops:List Oper} {st:St} {F:St→St} {K:Ex→St→Prop} (ds:List Nat) (st0:St) (e:allocDs ops=ds:=by rfl) (e0:startD ds st=st0:=by simp (maxSteps:=4000000);exact rfl)
  (k:PostD (runD P h C ds ops ops st0) fun s=>K .normal (F s)):Post (bnd (regionA P h C ops true st) fun st=>some (Ex.normal,F st)) K:=qqu ds st0 e e0 k
end
end Go.AI
end
section
namespace Go.AI
open Go.RowKit
set_option linter.unusedVariables false
section
variable {P:Program} {B:Nat} {T0:Nat→Prop} {μ0:Gh} {w0:World} {N:Nat} {μ:Gh} {lx:Nat→Option Nat} {a:Act} {w:World} {st:St}
theorem Sim.gp_open {i b off:Nat} {sh:Option (TypeId×Nat)} {cs:List AV} (h:Sim B T0 μ0 w0 N μ lx a w st) (hi:look st.t i=some (.gp b off sh)) (hb:st.s[b]? = some cs) (hne:cs≠[]) :
  ∃blk cur ty,a.tmps.getD i undef=.pointer (some ⟨blk,off,none⟩)∧μ.bx b=some blk∧Blk w blk cur ty∧cs.length≤cur.size∧μ.fr blk=0 ∧
   (∀(j:Nat) (c:AV),cs[j]? = some c→qaa c=true∧Rep B μ w (cur.getD j undef) c∧Tk1 B μ w (cur.getD j undef) c)∧(∀s,sh=some s→(ty,cur.size)=s):=by
 have hf:=h.tmp i _ hi
 have hr:=hf.1
 generalize hv:a.tmps.getD i undef=v at hr
 cases hr with
 | gp _ _ blk _ hq hs =>
  obtain⟨cur,ty,g1,g2,g3,g4⟩:=h.glb b cs blk hb hq hne
  exact⟨blk,cur,ty,rfl,hq,g1,g2,g3,g4,fun s e=>by have:=hs s e;rw[g1.shape] at this;injection this⟩
theorem Sim.setGlobCell {b blk j:Nat} {cs:List AV} {vs:Array Value} {ty:TypeId} {v:Value} {c:AV} (h:Sim B T0 μ0 w0 N μ lx a w st) (hl:st.s[b]? = some cs) (hb:μ.bx b=some blk)
  (hh:Blk w blk vs ty) (hj:j<cs.length) (r:Res B T0 w0 μ lx a w st v c) (hc:qaa c=true) :
  Sim B T0 μ0 w0 N μ lx a (w.setCell ⟨blk,j,none⟩ v) {st with s:=st.s.set b (cs.set j c)}:=by
 have hne:cs≠[]:=fun e=>by subst e;simp at hj
 obtain⟨vs0,ty0,g1,g2,g3,g4⟩:=h.glb b cs blk hl hb hne
 obtain⟨fz,hh',hok⟩:=hh
 obtain⟨rfl,rfl⟩:vs0=vs∧ty0=ty:=by
  obtain⟨fz1,g1,_⟩:=g1
  rw[hh'] at g1;injection g1 with g1;injection g1 with e1 e2;exact⟨e1.symm,e2.symm⟩
 have hh:Blk w blk vs0 ty0:=⟨fz,hh',hok⟩
 have hjv:j<vs0.size:=Nat.lt_of_lt_of_le hj g2
 have hrep:Rep B μ w v c:=r.full.rep fun d i e=>by subst e;cases hc
 have htk:Tk1 B μ w v c:=by
  have:=r.full
  cases c with
  | lp d i=>cases hc
  | tup xs=>cases hc
  | _=>exact this.2
 rw[setCell_eq_setRow w blk j vs0 ty0 fz v hh']
 have hget:∀j',(vs0.setIfInBounds j v).getD j' undef=if j'=j then v else vs0.getD j' undef:=by
  intro j'
  simp only[Array.getD_eq_getD_getElem?,Array.getElem?_setIfInBounds]
  by_cases e:j'=j
  ·subst e;simp[hjv]
  ·rw[if_neg (fun q=>e q.symm),if_neg e]
 have hcs:∀(j':Nat) (c':AV),(cs.set j c)[j']? = some c'→(j'=j∧c'=c)∨(j'≠j∧cs[j']? = some c'):=by
  intro j' c' e
  rw[List.getElem?_set] at e
  by_cases q:j=j'
  ·subst q;simp[hj] at e;exact .inl ⟨rfl,e.symm⟩
  ·rw[if_neg q] at e;exact .inr ⟨fun e=>q e.symm,e⟩
 have oldown:∀(j' k:Nat) (c':AV),cs[j']? = some c'→exBlk (vs0.getD j' undef) c'=some k→own a lx μ w st (.gc b j')=some k:=by
  intro j' k c' hc e
  have hj':j'<vs0.size:=Nat.lt_of_lt_of_le (List.getElem?_eq_some_iff.1 hc).1 g2
  have hq:vs0[j']? = some (vs0.getD j' undef):=by simp[Array.getD_eq_getD_getElem?,hj']
  simp only[own,ownB,hl,hb,Option.bind_some,hc,qab hh,hq]
  exact e
 refine h.setGlob (vs:=vs0) (ty:=ty0) hl hne hb hh g3 (by simp) (by simpa using g2) (fun j' c' e=>?_) (fun j' k c' e x=>?_) (fun j' j'' k c' c'' e e' x x'=>?_)
 ·rw[hget]
  rcases hcs j' c' e with ⟨rfl,rfl⟩|⟨q,e⟩
  ·rw[if_pos rfl];exact⟨hc,hrep,htk⟩
  ·rw[if_neg q];exact g4 j' c' e
 ·rw[hget] at x
  rcases hcs j' c' e with ⟨rfl,rfl⟩|⟨q,e⟩
  ·rw[if_pos rfl] at x
   have:=r.tok none k x
   exact⟨this.1,this.2.1,this.2.2.1,fun l _=>this.2.2.2 l⟩
  ·rw[if_neg q] at x
   have ho:=oldown j' k c' e x
   have:=h.rng _ k ho
   exact⟨this.1,this.2.1,this.2.2,fun l hl e2=>hl j' (h.inj _ _ k e2 ho)⟩
 ·rw[hget] at x x'
  rcases hcs j' c' e with ⟨rfl,rfl⟩|⟨q1,e1⟩<;>rcases hcs j'' c'' e' with ⟨rfl,rfl⟩|⟨q2,e2⟩
  ·rfl
  ·rw[if_pos rfl] at x;rw[if_neg q2] at x'
   exact absurd (oldown j'' k c'' e2 x') ((r.tok none k x).2.2.2 _)
  ·rw[if_neg q1] at x;rw[if_pos rfl] at x'
   exact absurd (oldown j' k c' e1 x) ((r.tok none k x').2.2.2 _)
  ·rw[if_neg q1] at x;rw[if_neg q2] at x'
   have:=h.inj _ _ k (oldown j' k c' e1 x) (oldown j'' k c'' e2 x');injection this
theorem Sim.unit (h:Sim B T0 μ0 w0 N μ lx a w st) (h0:μ0.df=[]:=by first|assumption|exact Sim.mdf (by assumption)):Sim B T0 μ0 w0 1 μ (fun _=>none) ⟨#[.tuple #[]],[]⟩ w ⟨[(0,.tup [])],[],st.s⟩ :=
 h.out (.mk' ⟨.tup _ _ rfl (fun j c hc=>by simp at hc),fun j c hc=>by simp at hc⟩ fun j=>by cases j<;>simp[ownV,exBlk]) fun d i q=>by cases q
theorem Sim.text (h:Sim B T0 μ0 w0 N μ lx a w st) (l:List UInt8) (h0:μ0.df=[]:=by first|assumption|exact Sim.mdf (by assumption)):Sim B T0 μ0 w0 1 μ (fun _=>none) ⟨#[.string ⟨l.toArray⟩],[]⟩ w ⟨[(0,.str l)],[],st.s⟩ :=
 h.out (.mk' ⟨by have:=Rep.str (B:=B) (μ:=μ) (w:=w) ⟨l.toArray⟩;simpa using this,trivial⟩ fun j=>by cases j<;>simp[ownV,exBlk]) fun d i q=>by cases q
end
end Go.AI
end
section
namespace Go.AI
set_option linter.unusedVariables false
section
variable {P:Program}
theorem qir {H:FuncId→Hint} {T:Table} {f:FuncId} {fn:Func} {c:Code} {as:List AV} {s:List (List AV)} {Φ:AV×List (List AV)→Prop} (hT:T f=none) (hf:P.funcs[AI.base f]? = some fn) (hb:fn.body=some c)
  (hn:as.length≤fn.ntmps) (hc:codeOk (H f) fn.ntmps c=true) (hg:(fn.name== "runtime.NumGoroutine")=false)
  (hp:Post (EXEC P (H f) (EV P H T) c ⟨params 0 as,[],s⟩) fun e st=>∃r,finE P (H f) s fn (some (e,st))=some r∧Φ r) (h9:f<900000:=by decide):∃r,EV P H T f as s=some r∧Φ r:=by
 obtain⟨e,st,h1,r,h2,h3⟩:=hp
 exact⟨r,q9 hT hf hb hn hc hg ⟨e,st,h1,h2⟩ h9,h3⟩
end
end Go.AI
end
section
namespace Go.AI
set_option linter.unusedVariables false
theorem que {β:Type} {g:β→AV} {f:AV→Option AV} (h:∀x,f (g x)=some (g x)):∀l:List β,mapO f (l.map g)=some (l.map g):=by
 intro l
 induction l with
 | nil=>rfl
 | cons x r ih=>simp only[List.map_cons,mapO,h,bnd,ih]
def msRow (ty a n k:Nat):List AV:=(List.range n).map fun i=>.ms ty 1 (a+i) 0 k
end Go.AI
end
section
namespace Go.AI
open Go.RowKit
set_option linter.unusedVariables false
abbrev Panics:=FuncId→List AV→List (List AV)→AV→Prop
def APan (P:Program) (B:Nat) (W0:World) (f:FuncId) (as:List AV) (s:List (List AV)) (r:AV):Prop :=
 ∀(T:Nat→Prop) (μ:Gh) (w:World) (vs:Array Value),vs.size=as.length→Below B W0 w →
  Sim B T μ w vs.size μ (fun _=>none) ⟨vs,[]⟩ w ⟨params 0 as,[],s⟩ →
  Calls P f vs w fun e w'=>∃v μ' s',e=.panicked [{v:=v,recovered:=false}]∧Sim B T μ w 1 μ' (fun _=>none) ⟨#[v],[]⟩ w' ⟨[(0,r)],[],s'⟩
def bndP {α:Type} (x:Option α) (f:α→Prop):Prop :=
 match x with
 | some a=>f a
 | none=>False
theorem qau {α:Type} {x:Option α} {f:α→Prop} (h:bndP x f):∃a,x=some a∧f a:=by
 cases x with
 | none=>exact h.elim
 | some a=>exact⟨a,rfl,h⟩
@[simp] theorem qbu {α:Type} {a:α} {f:α→Prop}:bndP (some a) f=f a:=rfl
@[congr] theorem qzu {α:Type} {x y:Option α} {f:α→Prop} (e:x=y):bndP x f=bndP y f:=by rw[e]
def isIfc:AV→Bool
 | .ifc _ _=>true
 | _=>false
def panOp (hh:Hint) (CP:Panics) (o:Oper) (st:St) (r:AV):Prop :=
 match o.op with
 | .panic x=>bndP (aeval st x) fun v=>isIfc v=true∧v=r
 | .call c=>match c.callee with
  | .value f=>bndP (aeval st f) fun g=>match g with
   | .fn g cap=>g<100000∧bndP (aevals st c.args.toList) fun as=>bndP (args as) fun as=>CP (vary hh o.dst g) (as++cap) st.s r
   | .fb g fs=>g<100000∧bndP (aevals st c.args.toList) fun as=>bndP (args as) fun as=>CP (vary hh o.dst g) (fs++as) st.s r
   | _=>False
  | _=>False
 | _=>False
def PanOk (P:Program) (B:Nat) (W0:World) (CP:Panics):Prop :=
 ∀f as s r,CP f as s r→Enters P (AI.base f)∧APan P B W0 (AI.base f) as s r
section
variable {P:Program} {B:Nat} {T0:Nat→Prop} {μ0:Gh} {w0:World} {N:Nat} {μ:Gh} {lx:Nat→Option Nat} {a:Act} {w:World} {st:St} {hh:Hint} {C:Oracle} {CP:Panics} {W0:World}
def PQ (B:Nat) (T0:Nat→Prop) (μ0:Gh) (w0:World) (N:Nat) (r:AV) (Q:Exit→Act→World→Prop):Prop :=
 ∀(μ':Gh) (lx':Nat→Option Nat) (a':Act) (w':World) (st':St) (v:Value),Sim B T0 μ0 w0 N μ' lx' a' w' st'→Res B T0 w0 μ' lx' a' w' st' v r→(∀d i,r≠.lp d i)→Q (.panic [{v:=v,recovered:=false}]) a' w'
def PQt (B:Nat) (T0:Nat→Prop) (μ0:Gh) (w0:World) (N:Nat) (r:AV) (t:List (Nat×AV)) (Q:Exit→Act→World→Prop):Prop :=
 ∀(μ':Gh) (lx':Nat→Option Nat) (a':Act) (w':World) (st':St) (v:Value),Sim B T0 μ0 w0 N μ' lx' a' w' st'→Res B T0 w0 μ' lx' a' w' st' v r→(∀d i,r≠.lp d i)→st'.t=t→Q (.panic [{v:=v,recovered:=false}]) a' w'
theorem PQ.t {r:AV} {t:List (Nat×AV)} {Q:Exit→Act→World→Prop} (k:PQ B T0 μ0 w0 N r Q):PQt B T0 μ0 w0 N r t Q:=fun μ' lx' a' w' st' v h1 h2 h3 _=>k μ' lx' a' w' st' v h1 h2 h3
theorem qnf {o:Oper} {K:Act→World→Prop} {Q:Exit→Act→World→Prop} {gf:FuncId} {vs:Array Value} {as:List AV} {r:AV} (h:Sim B T0 μ0 w0 N μ lx a w st) (hW:Below B W0 w0) (hsz:vs.size=as.length)
  (hval:∀(j:Nat) (c:AV),as[j]? = some c→Rep B μ w (vs.getD j undef) c∧pers c=true∧quiet c=true)
  (hex:(execOp a.eval o).run P w=.ok (.enter gf vs) w) (hC:APan P B W0 gf as st.s r) (k:PQt B T0 μ0 w0 N r st.t Q):o.wp P a w K Q:=by
 have hent:=h.entry hsz hval
 have hcall:=hC (fun k=>held a lx μ w st k∨noX k) μ w vs hsz (hW.trans h.ext.below) hent
 unfold Oper.wp
 rw[hex]
 show Calls P gf vs w _
 refine hcall.mono fun e w' hw'=>?_
 obtain⟨v,μ',s',rfl,hs⟩:=hw'
 obtain⟨s1,s2⟩:=h.call (fun _ hk=>hk.elim) hs
 refine k μ' lx a w' _ v s1 s2 (fun d i e=>?_) rfl
 subst e
 obtain⟨blk,hb,_⟩:=hs.tmp 0 (.lp d i) (by simp[look])
 cases hb
theorem qd8 {o : Oper} {K : Act → World → Prop} {Q : Exit → Act → World → Prop} {r : AV} (h : Sim B T0 μ0 w0 N μ lx a w st) (hW : Below B W0 w0) (hP : PanOk P B W0 CP) (e : panOp hh CP o st r) (k : PQt B T0 μ0 w0 N r st.t Q) : o.wp P a w K Q := by
  obtain ⟨d, op, T, pos, af, g⟩ := o
  cases op with
  | panic x =>
    simp only [panOp] at e
    obtain ⟨v, hv, hi, e⟩ := qau e
    subst e
    have hr := qd9 (B := B) (T0 := T0) (w0 := w0) h hv
    cases v with
    | ifc t u =>
      have hf := (ql h hv).1
      generalize hx : a.eval x = xv at hf hr
      cases hf with
      | ifc _ v' _ hh' =>
        unfold Oper.wp
        have hex : (execOp a.eval ⟨d, .panic x, T, pos, af, g⟩).run P w = .halt (.panic (.iface t v')) w := by
          simp [execOp, hx, Instr.panic, goPanic]
        rw [hex]
        exact k μ lx a w st _ h hr (by simp) rfl
    | _ => cases hi
  | call c =>
    obtain ⟨ce, xs, ts⟩ := c
    cases ce with
    | value f =>
      simp only [panOp] at e
      obtain ⟨gv, hg, e⟩ := qau e
      cases gv with
      | fn gf cap =>
        simp only at e
        obtain ⟨h1, e⟩ := e
        obtain ⟨us, hu, e⟩ := qau e
        obtain ⟨vs, hv, e⟩ := qau e
        obtain ⟨hE, hC⟩ := hP _ _ _ _ e
        rw [qc4 h1] at hE hC
        obtain ⟨a1, a2⟩ := qaz h hu hv
        have hr := (ql h hg).1
        generalize hx : a.eval f = fv at hr
        cases hr with
        | fn gf caps cs hl hp hh =>
          have hsz : (xs.map a.eval ++ caps).size = (vs ++ cap).length := by
            simp only [Array.size_append, Array.size_map, List.length_append, hl]
            have : xs.toList.length = xs.size := by simp
            omega
          refine qnf h hW hsz (fun j c hc => ?_) (by simp [execOp, resolve, hx, Deferred.ofValue, invoke, qav hE]) hC k
          have hxl : xs.size = vs.length := by have : xs.toList.length = xs.size := by simp
                                               omega
          by_cases hj : j < vs.length
          · rw [List.getElem?_append_left hj] at hc
            have := a2 j c hc
            have e : (xs.map a.eval ++ caps).getD j undef = ((xs.toList.map a.eval).toArray).getD j undef := by
              simp only [Array.getD_eq_getD_getElem?]
              rw [Array.getElem?_append_left (by simp; omega)]
              simp
            rw [e]
            exact ⟨this.1, this.2.2.2⟩
          · rw [List.getElem?_append_right (by omega)] at hc
            have e : (xs.map a.eval ++ caps).getD j undef = caps.getD (j - vs.length) undef := by
              simp only [Array.getD_eq_getD_getElem?]
              rw [Array.getElem?_append_right (by simp; omega)]
              simp [hxl]
            rw [e]
            exact ⟨hh _ c hc, hp c (List.mem_of_getElem? hc)⟩
      | fb gf cap =>
        simp only at e
        obtain ⟨h1, e⟩ := e
        obtain ⟨us, hu, e⟩ := qau e
        obtain ⟨vs, hv, e⟩ := qau e
        obtain ⟨hE, hC⟩ := hP _ _ _ _ e
        rw [qc4 h1] at hE hC
        obtain ⟨a1, a2⟩ := qaz h hu hv
        have hr := (ql h hg).1
        generalize hx : a.eval f = fv at hr
        cases hr with
        | fb gf caps cs hl hp hh =>
          have hsz : (caps ++ xs.map a.eval).size = (cap ++ vs).length := by
            simp only [Array.size_append, Array.size_map, List.length_append, hl]
            have : xs.toList.length = xs.size := by simp
            omega
          refine qnf h hW hsz (fun j c hc => ?_) (by simp [execOp, resolve, hx, Deferred.ofValue, invoke, qav hE]) hC k
          by_cases hj : j < cap.length
          · rw [List.getElem?_append_left hj] at hc
            have e : (caps ++ xs.map a.eval).getD j undef = caps.getD j undef := by
              simp only [Array.getD_eq_getD_getElem?]
              rw [Array.getElem?_append_left (by omega)]
            rw [e]
            exact ⟨hh _ c hc, hp c (List.mem_of_getElem? hc)⟩
          · rw [List.getElem?_append_right (by omega)] at hc
            have := a2 _ c hc
            have e : (caps ++ xs.map a.eval).getD j undef = ((xs.toList.map a.eval).toArray).getD (j - cap.length) undef := by
              simp only [Array.getD_eq_getD_getElem?]
              rw [Array.getElem?_append_right (by omega), hl]
              simp
            rw [e]
            exact ⟨this.1, this.2.2.2⟩
      | _ => exact e.elim
    | _ => simp only [panOp] at e
  | _ => simp only [panOp] at e
theorem qkc {ops:Array Oper} {Q:Exit→Act→World→Prop} {r:AV} (hW:Below B W0 w0) (hC:OracleOk P B W0 C) (hP:PanOk P B W0 CP) (k:PQ B T0 μ0 w0 N r Q):∀(l l':List Oper) (o:Oper) {st st':St} {μ:Gh} {lx:Nat→Option Nat} {a:Act} {w:World},
  Sim B T0 μ0 w0 N μ lx a w st→opsOk N l=true→runOps P hh C ops.toList l st=some st'→wantedA ops.toList o.guard st'=some true→panOp hh CP o st' r→wpList P ops Q (l++o::l') a w:=by
 intro l l' o
 induction l with
 | nil =>
  intro st st' μ lx a w h _ e hw hp
  injection e with e;subst e
  simp only[List.nil_append,wpList]
  rw[qae h hw]
  exact .inl (qd8 h hW hP hp k.t)
 | cons p r ih =>
  intro st st' μ lx a w h hok e hwo hp
  simp only[opsOk,Bool.and_eq_true] at hok
  have hd:∀n,p.dst=some n→n<N:=fun n hn=>by have:=hok.1;rw[hn] at this;simpa using this
  simp only[runOps] at e
  simp only[List.cons_append,wpList]
  cases hw:wantedA ops.toList p.guard st with
  | none=>rw[hw] at e;cases e
  | some b =>
   rw[hw] at e
   rw[qae h hw]
   cases b with
   | true =>
    simp only[sel] at e
    obtain⟨st1,h1,e⟩:=qa e
    refine .inl (qbo h hW hC hd h1 _ _ fun μ' lx' a' w' hs=>ih hs hok.2 e hwo hp)
   | false =>
    simp only[sel] at e
    simp only[Bool.false_eq_true,if_false]
    exact ih (qcc h hd) hok.2 e hwo hp
theorem qon (hm : P.follows .mixedOrders = true) {ops : Array Oper} {Q : Exit → Act → World → Prop} {r : AV} {id : Nat} {l : List Oper} {o : Oper} {st' : St} (hW : Below B W0 w0) (hC : OracleOk P B W0 C) (hP : PanOk P B W0 CP) (k : PQ B T0 μ0 w0 N r Q)
    (h : Sim B T0 μ0 w0 N μ lx a w st) (hok : drawOk hh ops = true) (hN : opsOk N ops.toList = true) (hl : ops.toList = l ++ [o]) (hb : (List.range l.length).all (fun j => befL ops.toList j l.length) = true)
    (e : runD P hh C (allocDs ops.toList) ops.toList l (startD (allocDs ops.toList) st) = some st') (hw : wantedA ops.toList o.guard st' = some true) (ho : okAll (allocDs ops.toList) st'.t (wrT hh o) = true) (hp : panOp hh CP o st' r) : (Code.region id ops true).wp P Q a w := by
  obtain ⟨f, h1, h2, h3⟩ := qh0 _ e
  have hsz : ops.size = l.length + 1 := by have : ops.toList.length = ops.size := by simp
                                           rw [← this, hl]; simp
  have hlast : ops.toList[l.length]? = some o := by rw [hl]; simp
  obtain ⟨F, hF⟩ : ∃ F : Nat → St, F = fun i => if i ≤ l.length then f i else st' := ⟨_, rfl⟩
  have F0 : F 0 = startD (allocDs ops.toList) st := by rw [hF]; show (if 0 ≤ l.length then f 0 else st') = _; rw [if_pos (Nat.zero_le _), h1]
  have FL : F l.length = st' := by rw [hF]; show (if l.length ≤ l.length then f l.length else st') = _; rw [if_pos (Nat.le_refl _), h2]
  have FS : F (l.length + 1) = st' := by rw [hF]; show (if l.length + 1 ≤ l.length then _ else st') = _; rw [if_neg (by omega)]
  have hD : ∀ (i : Nat) (p : Oper), ops.toList[i]? = some p → i ≠ l.length → StepD P hh C (allocDs ops.toList) ops.toList p (F i) (F (i + 1)) := by
    intro i p hpi hne
    have hlt : i < l.length := by
      have := (List.getElem?_eq_some_iff.1 hpi).1
      rw [hl] at this; simp at this; omega
    have hpl : l[i]? = some p := by rw [hl, List.getElem?_append_left hlt] at hpi; exact hpi
    have := h3 i p hpl
    rw [hF]; simp only [show i ≤ l.length by omega, if_true, show i + 1 ≤ l.length by omega]; exact this
  refine wp_region_any hm ?_
  have hdr : ({ w with drawn := w.drawn + 1 } : World) = w.drew := rfl
  rw [hdr]
  have hs0 : Sim B T0 μ0 w0 N μ lx a w.drew (F 0) := by
    rw [F0]
    have := h.drew.1
    obtain ⟨k1, k2⟩ := qb2 (allocDs ops.toList) st.t h.nd
    exact this.sub (fun i v e => (k2 i v e).1) k1 fun d cs e => e
  have hno : ∀ i, (Array.replicate ops.size false).getD i false = false := fun i => by
    rw [Array.getD_eq_getD_getElem?]
    by_cases hi : i < ops.size <;> simp [hi]
  have hla : ∀ {α : Type} (W : Nat → Bool) (v : Nat → α) n, last (fun i => (Array.replicate ops.size false).getD i false) W v n = v 0 := by
    intro α W v n
    rcases qip (S := fun i => (Array.replicate ops.size false).getD i false) (W := W) (v := v) n with e | ⟨k, _, hS, _⟩
    · exact e
    · simp only [hno] at hS; cases hS
  refine qgg (R := fun _ μ lx a w σ => Sim B T0 μ0 w0 N μ lx a w σ) hok (fun _ _ _ _ _ _ h => h) (fun listed i p a w μ lx σ σ' K hpi _ hSi hpre hs hstep next => ?_) (· = l.length) (fun i hi => ?_) (fun listed i p a w μ lx σ K hi hpi _ hs => ?_) (fun i p hpi => ?_) (fun i p hpi hne => hD i p hpi hne) hs0.nd ?_ (fun hn => absurd rfl (hn l.length))
    ops.size _ a _ μ lx (F 0) (by simp) ?_ ?_ (fun i _ => hno i) hs0 (fun x => (hla _ (fun k => look (F k).t x) _).symm) (fun d => (hla _ (fun k => look (F k).l d) _).symm) (hla _ (fun k => (F k).s) _).symm
  · have hdN := qka hN (i := i) (o := p) (by simpa using hpi)
    unfold wpOp
    rw [hpi]
    simp only
    rcases hstep with ⟨hw, hst⟩ | ⟨hw, hst⟩
    · rw [qae hs hw]
      exact .inl (qbo hs hW hC hdN hst _ _ fun μ' lx' a' w' hsim => next a' w' μ' lx' hsim)
    · rw [qae hs hw]
      simp only [Bool.false_eq_true, if_false]
      refine next _ _ μ lx ?_
      subst hst
      exact qcc hs hdN
  · subst hi
    refine ⟨hsz.symm, fun j hj => ?_⟩
    exact List.all_eq_true.1 hb j (List.mem_range.2 hj)
  · subst hi
    have hpo : p = o := by
      have : ops.toList[l.length]? = some p := by simpa using hpi
      rw [hlast] at this; exact (Option.some.inj this).symm
    subst hpo
    rw [FL] at hs
    unfold wpOp
    rw [hpi]
    simp only
    rw [qae hs hw]
    exact .inl (qd8 hs hW hP hp k.t)
  · by_cases hi : i = l.length
    · subst hi
      rw [hlast] at hpi; injection hpi with hpi; subst hpi
      refine .inr ⟨by rw [FL, FS], by rw [FL]; exact ho⟩
    · exact .inl (hD i p hpi hi)
  · intro i v e d hd
    rw [F0] at e
    exact ((qb2 (allocDs ops.toList) st.t h.nd).2 i v e).2 d hd
  · have : ∀ n, cnt (fun i => (Array.replicate ops.size false).getD i false) n = n := by
      intro n
      induction n with
      | zero => rfl
      | succ n ih =>
        show cnt _ n + (if (Array.replicate ops.size false).getD n false = true then 0 else 1) = n + 1
        rw [ih, hno]; rfl
    exact this _
  · intro j o _ hj
    rw [hno] at hj; cases hj
inductive PX (P:Program) (hh:Hint) (C:Oracle) (CP:Panics):Code→St→AV→Prop
 | reg (i:Nat) (ops:Array Oper) (l l':List Oper) (o:Oper) (st st1:St) (r:AV) (hl:ops.toList=l++o::l') (e:runOps P hh C ops.toList l (clean0 hh st)=some st1) (hw:wantedA ops.toList o.guard st1=some true)
   (hp:panOp hh CP o st1 r):PX P hh C CP (.region i ops false) st r
 | regD (i:Nat) (ops:Array Oper) (l:List Oper) (o:Oper) (st st1:St) (r:AV) (hl:ops.toList=l++[o]) (hb:(List.range l.length).all (fun j=>befL ops.toList j l.length)=true)
   (e:runD P hh C (allocDs ops.toList) ops.toList l (startD (allocDs ops.toList) (clean0 hh st))=some st1) (hw:wantedA ops.toList o.guard st1=some true) (ho:okAll (allocDs ops.toList) st1.t (wrT hh o)=true) (hp:panOp hh CP o st1 r) :
   PX P hh C CP (.region i ops true) st r
 | seqL (x y:Code) (st:St) (r:AV) (h:PX P hh C CP x st r):PX P hh C CP (.seq x y) st r
 | seqR (x y:Code) (st st1:St) (r:AV) (h1:EXEC P hh C x st=some (.normal,st1)) (h:PX P hh C CP y st1 r):PX P hh C CP (.seq x y) st r
 | condT (c:Operand) (x y:Code) (st:St) (r:AV) (hc:aeval st c=some (.bool true)) (h:PX P hh C CP x st r):PX P hh C CP (.cond c x y) st r
 | condF (c:Operand) (x y:Code) (st:St) (r:AV) (hc:aeval st c=some (.bool false)) (h:PX P hh C CP y st r):PX P hh C CP (.cond c x y) st r
 | block (i:Nat) (c:Code) (st:St) (r:AV) (h:PX P hh C CP c st r):PX P hh C CP (.block i c) st r
 | loop0 (c:Code) (st:St) (r:AV) (h:PX P hh C CP c (head hh (rid c) st) r):PX P hh C CP (.loop c) st r
 | loop1 (c:Code) (st st1:St) (r:AV) (h1:EXEC P hh C c (head hh (rid c) st)=some (.normal,st1)) (h:PX P hh C CP (.loop c) st1 r):PX P hh C CP (.loop c) st r
theorem quf (hm:P.follows .mixedOrders=true) (hW:Below B W0 w0) (hC:OracleOk P B W0 C) (hP:PanOk P B W0 CP) {c:Code} {st:St} {r:AV} (h:PX P hh C CP c st r):∀{μ:Gh} {lx:Nat→Option Nat} {a:Act} {w:World} {Q:Exit→Act→World→Prop},
  Sim B T0 μ0 w0 N μ lx a w st→codeOk hh N c=true→PQ B T0 μ0 w0 N r Q→c.wp P Q a w∧(∀c',c=.loop c'→LW P c' Q a w):=by
 induction h with
 | reg i ops l l' o st st1 r hl e hw hp =>
  intro μ lx a w Q hs hok k
  simp only[codeOk,Bool.and_eq_true,Bool.or_eq_true,Bool.not_eq_true'] at hok
  refine⟨wp_region_list ?_,fun c' e=>by cases e⟩
  have hokl:opsOk N l=true:=by
   have:=hok.1
   rw[hl] at this
   have go:∀l:List Oper,opsOk N (l++o::l')=true→opsOk N l=true:=by
    intro l
    induction l with
    | nil=>intro _;rfl
    | cons p q ih=>intro h;simp only[List.cons_append,opsOk,Bool.and_eq_true] at h ⊢;exact⟨h.1,ih h.2⟩
   exact go l this
  rw[hl]
  exact qkc hW hC hP k l l' o hs.clean0 hokl e hw hp
 | regD i ops l o st st1 r hl hb e hw ho hp =>
  intro μ lx a w Q hs hok k
  simp only[codeOk,Bool.and_eq_true,Bool.or_eq_true,Bool.not_eq_true'] at hok
  exact⟨qon hm hW hC hP k hs.clean0 (hok.2.resolve_left (by simp)) hok.1 hl hb e hw ho hp,fun c' e=>by cases e⟩
 | seqL x y st r h ih =>
  intro μ lx a w Q hs hok k
  simp only[codeOk,Bool.and_eq_true] at hok
  exact⟨wp_seq (ih (Q:=Exit.then (y.wp P Q) Q) hs hok.1 fun μ' lx' a' w' st' v h1 h2 h3=>k μ' lx' a' w' st' v h1 h2 h3).1,fun c' e=>by cases e⟩
 | seqR x y st st1 r h1 h ih =>
  intro μ lx a w Q hs hok k
  simp only[codeOk,Bool.and_eq_true] at hok
  refine⟨wp_seq ?_,fun c' e=>by cases e⟩
  obtain⟨m,hm1⟩:=(qt _).1 h1
  exact (qas hW hC (qai hm) m x st hs hok.1 hm1 fun μ' lx' a' w' hs'=>(ih hs' hok.2 k).1).1
 | condT c x y st r hc h ih =>
  intro μ lx a w Q hs hok k
  simp only[codeOk,Bool.and_eq_true] at hok
  have hb:a.eval c=.bool true:=by
   have:=(ql hs hc).1
   generalize a.eval c=u at this
   cases this;rfl
  exact⟨wp_cond_true hb (ih hs hok.1 k).1,fun c' e=>by cases e⟩
 | condF c x y st r hc h ih =>
  intro μ lx a w Q hs hok k
  simp only[codeOk,Bool.and_eq_true] at hok
  have hb:a.eval c=.bool false:=by
   have:=(ql hs hc).1
   generalize a.eval c=u at this
   cases this;rfl
  exact⟨wp_cond_false hb (ih hs hok.2 k).1,fun c' e=>by cases e⟩
 | block i c st r h ih =>
  intro μ lx a w Q hs hok k
  simp only[codeOk] at hok
  exact⟨wp_block (ih (Q:=Exit.inBlock i Q) hs hok fun μ' lx' a' w' st' v h1 h2 h3=>k μ' lx' a' w' st' v h1 h2 h3).1,fun c' e=>by cases e⟩
 | loop0 c st r h ih =>
  intro μ lx a w Q hs hok k
  have hok':codeOk hh N c=true:=hok
  have hl:LW P c Q a w:=LW.round (ih (Q:=Exit.then (LW P c Q) Q) hs.head hok' fun μ' lx' a' w' st' v h1 h2 h3=>k μ' lx' a' w' st' v h1 h2 h3).1
  exact⟨hl.wp,fun c' e=>by injection e with e;subst e;exact hl⟩
 | loop1 c st st1 r h1 h ih =>
  intro μ lx a w Q hs hok k
  have hok':codeOk hh N c=true:=hok
  obtain⟨m,hm1⟩:=(qt _).1 h1
  have hl:LW P c Q a w:=LW.round (qas hW hC (qai hm) m c _ hs.head hok' hm1 fun μ' lx' a' w' hs'=>(ih hs' hok k).2 c rfl).1
  exact⟨hl.wp,fun c' e=>by injection e with e;subst e;exact hl⟩
theorem qkd {I:Type} {CPn:I→Panics} {o:Oper} {st:St} {r:AV} (i0:I) (e:panOp hh (fun f as s r=>∃n,CPn n f as s r) o st r):∃n,panOp hh (CPn n) o st r:=by
 obtain⟨d,op,T,pos,af,g⟩:=o
 cases op with
 | panic x=>exact⟨i0,e⟩
 | call c =>
  obtain⟨ce,xs,ts⟩:=c
  cases ce with
  | value f =>
   simp only[panOp] at e ⊢
   obtain⟨gv,hg,e⟩:=qau e
   cases gv with
   | fn gf cap =>
    obtain⟨h1,e⟩:=e
    obtain⟨us,hu,e⟩:=qau e
    obtain⟨vs,hv,n,e⟩:=qau e
    exact⟨n,by rw[hg,qbu];exact⟨h1,by rw[hu,qbu,hv,qbu];exact e⟩⟩
   | fb gf cap =>
    obtain⟨h1,e⟩:=e
    obtain⟨us,hu,e⟩:=qau e
    obtain⟨vs,hv,n,e⟩:=qau e
    exact⟨n,by rw[hg,qbu];exact⟨h1,by rw[hu,qbu,hv,qbu];exact e⟩⟩
   | _=>exact e.elim
  | _=>simp only[panOp] at e
 | _=>simp only[panOp] at e
theorem q0w {I:Type} {CPn:I→Panics} (i0:I) {c:Code} {st:St} {r:AV} (h:PX P hh C (fun f as s r=>∃n,CPn n f as s r) c st r):∃n,PX P hh C (CPn n) c st r:=by
 induction h with
 | reg i ops l l' o st st1 r hl e hw hp=>obtain⟨n,hn⟩:=qkd i0 hp;exact⟨n,.reg i ops l l' o st st1 r hl e hw hn⟩
 | regD i ops l o st st1 r hl hb e hw ho hp=>obtain⟨n,hn⟩:=qkd i0 hp;exact⟨n,.regD i ops l o st st1 r hl hb e hw ho hn⟩
 | seqL x y st r h ih=>obtain⟨n,hn⟩:=ih;exact⟨n,.seqL _ _ _ _ hn⟩
 | seqR x y st st1 r h1 h ih=>obtain⟨n,hn⟩:=ih;exact⟨n,.seqR _ _ _ _ _ h1 hn⟩
 | condT c x y st r hc h ih=>obtain⟨n,hn⟩:=ih;exact⟨n,.condT _ _ _ _ _ hc hn⟩
 | condF c x y st r hc h ih=>obtain⟨n,hn⟩:=ih;exact⟨n,.condF _ _ _ _ _ hc hn⟩
 | block i c st r h ih=>obtain⟨n,hn⟩:=ih;exact⟨n,.block _ _ _ _ hn⟩
 | loop0 c st r h ih=>obtain⟨n,hn⟩:=ih;exact⟨n,.loop0 _ _ _ hn⟩
 | loop1 c st st1 r h1 h ih=>obtain⟨n,hn⟩:=ih;exact⟨n,.loop1 _ _ _ _ h1 hn⟩
end
def PCn (P:Program) (H:FuncId→Hint) (T:Table):Nat→Panics
 | 0,_,_,_,_=>False
 | n+1,f,as,s,r=>T f=none∧f<900000∧∃fn c,P.funcs[AI.base f]? = some fn∧fn.body=some c∧(as.length≤fn.ntmps∧codeOk (H f) fn.ntmps c=true∧(fn.name== "runtime.NumGoroutine")=false) ∧
   PX P (H f) (EV P H T) (PCn P H T n) c ⟨params 0 as,[],s⟩ r
def PC (P:Program) (H:FuncId→Hint) (T:Table):Panics:=fun f as s r=>∃n,PCn P H T n f as s r
theorem qug {P:Program} {B:Nat} {W0:World} (hm:P.follows .mixedOrders=true) {H:FuncId→Hint} {T:Table} (hT:TableOk P B W0 T):PanOk P B W0 (PC P H T):=by
 have hC:OracleOk P B W0 (EV P H T):=qim hT (fun _ _=>qai hm)
 have main:∀n,PanOk P B W0 (PCn P H T n):=by
  intro n
  induction n with
  | zero=>intro f as s r e;exact e.elim
  | succ n ih =>
   intro f as s r e
   obtain⟨_,_,fn,c,hf,hc,⟨h1,h2,h3⟩,hx⟩:=e
   refine⟨⟨fn,hf,by rw[hc];rfl,h3⟩,?_⟩
   intro T0 μ w vs hsz hW hs
   refine calls_of_wp hf hc ?_
   have hw:=hs.wide hsz (n:=fn.ntmps) (by omega)
   refine (quf (T0:=T0) (μ0:=μ) (w0:=w) hm hW hC ih hx hw h2 ?_).1
   intro μ' lx' a' w' st' v h1 h2 h3
   exact⟨h1.defs.trans hs.mdf,v,μ',st'.s,rfl,h1.out h2 h3 hs.mdf⟩
 intro f as s r e
 obtain⟨n,e⟩:=e
 exact main n f as s r e
theorem PC_mk {P:Program} {H:FuncId→Hint} {T:Table} {f:FuncId} {fn:Func} {as:List AV} {s:List (List AV)} {r:AV} {c:Code} (hT:T f=none) (h9:f<900000) (hf:P.funcs[AI.base f]? = some fn) (hc:fn.body=some c)
  (h1:as.length≤fn.ntmps) (h2:codeOk (H f) fn.ntmps c=true) (h3:(fn.name== "runtime.NumGoroutine")=false) (h:PX P (H f) (EV P H T) (PC P H T) c ⟨params 0 as,[],s⟩ r):PC P H T f as s r:=by
 obtain⟨n,hn⟩:=q0w (CPn:=PCn P H T) 0 h
 exact⟨n+1,hT,h9,fn,c,hf,hc,⟨h1,h2,h3⟩,hn⟩
end Go.AI
end
section
namespace Go.AI
set_option linter.unusedVariables false
def hasR (id:Nat):Code→Bool
 | .region i _ _=>i==id
 | .seq a b=>hasR id a||hasR id b
 | .cond _ a b=>hasR id a||hasR id b
 | .block _ a=>hasR id a
 | .loop a=>hasR id a
 | _=>false
section
variable (P:Program) (hh:Hint) (C:Oracle) (CP:Panics)
def panR (k:Nat) (ops:List Oper) (st:St) (r:AV):Prop :=
 bndP ops[k]? fun o=>bndP (runOps P hh C ops (ops.take k) st) fun st1=>wantedA ops o.guard st1=some true∧panOp hh CP o st1 r
def panRD (ops:List Oper) (st:St) (r:AV):Prop :=
 (List.range (ops.length-1)).all (fun j=>befL ops j (ops.length-1))=true ∧
 bndP ops[ops.length-1]? fun o=>PostD (runD P hh C (allocDs ops) ops (ops.take (ops.length-1)) (startD (allocDs ops) st)) fun st1=>wantedA ops o.guard st1=some true∧okAll (allocDs ops) st1.t (wrT hh o)=true∧panOp hh CP o st1 r
def pan (id k:Nat):Code→St→AV→Prop
 | .region i ops false,st,r=>i=id∧panR P hh C CP k ops.toList (clean0 hh st) r
 | .region i ops true,st,r=>i=id∧panRD P hh C CP ops.toList (clean0 hh st) r
 | .seq a b,st,r=>if hasR id a then pan id k a st r else Post (EXEC P hh C a st) fun e st1=>(match e with|.normal=>True|_=>False)∧pan id k b st1 r
 | .cond c a b,st,r=>bndP (aeval st c) fun v=>match v with
  | .bool t=>if t then pan id k a st r else pan id k b st r
  | _=>False
 | .block _ a,st,r=>pan id k a st r
 | .loop a,st,r=>PX P hh C CP (.loop a) st r
 | _,_,_=>False
end
section
variable {P:Program} {hh:Hint} {C:Oracle} {CP:Panics}
theorem q0x {id k:Nat}:∀{c:Code} {st:St} {r:AV},pan P hh C CP id k c st r→PX P hh C CP c st r:=by
 intro c
 induction c with
 | region i ops draw =>
  intro st r h
  cases draw with
  | false =>
   simp only[pan] at h
   obtain⟨_,h⟩:=h
   obtain⟨o,ho,h⟩:=qau h
   obtain⟨st1,e,hw,hp⟩:=qau h
   refine .reg i ops (ops.toList.take k) (ops.toList.drop (k+1)) o st st1 r ?_ e hw hp
   obtain⟨hk,ho2⟩:=List.getElem?_eq_some_iff.1 ho
   rw[← ho2,← List.drop_eq_getElem_cons hk,List.take_append_drop]
  | true =>
   simp only[pan] at h
   obtain⟨_,hb,h⟩:=h
   obtain⟨o,ho,st1,e,hw,hk,hp⟩:=qau h
   obtain⟨hl,ho2⟩:=List.getElem?_eq_some_iff.1 ho
   have hlen:(ops.toList.take (ops.toList.length-1)).length=ops.toList.length-1:=by simp
   refine .regD i ops (ops.toList.take (ops.toList.length-1)) o st st1 r ?_ (by rw[hlen];exact hb) e hw hk hp
   have h3:ops.toList.drop (ops.toList.length-1+1)=[]:=List.drop_eq_nil_of_le (by omega)
   have h2:ops.toList.drop (ops.toList.length-1)=[o]:=by
    rw[List.drop_eq_getElem_cons hl,ho2,h3]
   have h1:=List.take_append_drop (ops.toList.length-1) ops.toList
   rw[h2] at h1
   exact h1.symm
 | seq a b iha ihb =>
  intro st r h
  simp only[pan] at h
  split at h
  ·exact .seqL a b st r (iha h)
  ·obtain⟨e,st1,h1,h2,h3⟩:=h
   cases e with
   | normal=>exact .seqR a b st st1 r h1 (ihb h3)
   | _=>exact h2.elim
 | cond c a b iha ihb =>
  intro st r h
  simp only[pan] at h
  obtain⟨v,hv,h⟩:=qau h
  cases v with
  | bool t =>
   cases t with
   | true=>exact .condT c a b st r hv (iha h)
   | false=>exact .condF c a b st r hv (ihb h)
  | _=>exact h.elim
 | block i a ih=>intro st r h;exact .block i a st r (ih h)
 | loop a ih=>intro st r h;exact h
 | _=>intro st r h;exact h.elim
@[simp ↓] theorem qzv {id k i:Nat} {l:List Oper} {st:St} {r:AV}:pan P hh C CP id k (.region i (List.toArray l) false) st r=(i=id∧strict (clean0 hh st) fun st=>panR P hh C CP k l st r):=nrfl rfl
@[simp ↓] theorem qxx {id k i:Nat} {l:List Oper} {st:St} {r:AV}:pan P hh C CP id k (.region i (List.toArray l) true) st r=(i=id∧strict (clean0 hh st) fun st=>panRD P hh C CP l st r):=nrfl rfl
@[simp ↓] theorem pan_seq {id k:Nat} {a b:Code} {st:St} {r:AV}:pan P hh C CP id k (.seq a b) st r=(if hasR id a=true then pan P hh C CP id k a st r else Post (EXEC P hh C a st) fun e st1=>(match e with|.normal=>True|_=>False)∧pan P hh C CP id k b st1 r):=nrfl rfl
@[simp ↓] theorem pan_cond {id k:Nat} {c:Operand} {a b:Code} {st:St} {r:AV}:pan P hh C CP id k (.cond c a b) st r=(bndP (aeval st c) fun v=>match v with
  | .bool t=>if t=true then pan P hh C CP id k a st r else pan P hh C CP id k b st r
  | _=>False):=nrfl rfl
@[simp ↓] theorem q0y {id k i:Nat} {a:Code} {st:St} {r:AV}:pan P hh C CP id k (.block i a) st r=pan P hh C CP id k a st r:=nrfl rfl
@[simp ↓] theorem pan_loop {id k:Nat} {a:Code} {st:St} {r:AV}:pan P hh C CP id k (.loop a) st r=PX P hh C CP (.loop a) st r:=nrfl rfl
@[congr] theorem q0z {id k:Nat} {c:Code} {s t:St} {r:AV} (e:s=t):pan P hh C CP id k c s r=pan P hh C CP id k c t r:=by rw[e]
@[simp ↓] theorem hasR_region {id i:Nat} {ops d}:hasR id (.region i ops d)=(i==id):=nrfl rfl
@[simp ↓] theorem hasR_seq {id:Nat} {a b:Code}:hasR id (.seq a b)=(hasR id a||hasR id b):=nrfl rfl
@[simp ↓] theorem hasR_cond {id:Nat} {c a b}:hasR id (.cond c a b)=(hasR id a||hasR id b):=nrfl rfl
@[simp ↓] theorem hasR_block {id i:Nat} {a}:hasR id (.block i a)=hasR id a:=nrfl rfl
@[simp ↓] theorem hasR_loop {id:Nat} {a}:hasR id (.loop a)=hasR id a:=nrfl rfl
@[simp ↓] theorem hasR_skip {id:Nat}:hasR id .skip=false:=nrfl rfl
@[simp ↓] theorem hasR_ret {id:Nat}:hasR id .ret=false:=nrfl rfl
@[simp ↓] theorem hasR_exit {id i:Nat}:hasR id (.exit i)=false:=nrfl rfl
@[simp ↓] theorem panR_unf {k:Nat} {l:List Oper} {st:St} {r:AV}:panR P hh C CP k l st r=bndP l[k]? fun o=>bndP (runOps P hh C l (l.take k) st) fun st1=>wantedA l o.guard st1=some true∧panOp hh CP o st1 r:=nrfl rfl
section
variable {d:Option Tmp} {T:TypeId} {pos:String} {af:Array Edge} {g:Option (Nat×Bool)} {st:St} {r:AV}
@[simp ↓] theorem qxy {x}:panOp hh CP ⟨d,.panic x,T,pos,af,g⟩ st r=bndP (aeval st x) fun v=>isIfc v=true∧v=r:=nrfl rfl
@[simp ↓] theorem qzw {f xs ts} : panOp hh CP ⟨d, .call ⟨.value f, xs, ts⟩, T, pos, af, g⟩ st r = bndP (aeval st f) fun g => match g with
      | .fn g cap => g < 100000 ∧ bndP (aevals st xs.toList) fun as => bndP (args as) fun as => CP (vary hh d g) (as ++ cap) st.s r
      | .fb g fs => g < 100000 ∧ bndP (aevals st xs.toList) fun as => bndP (args as) fun as => CP (vary hh d g) (fs ++ as) st.s r
      | _ => False := nrfl rfl
end
attribute [simp] isIfc
theorem qbv {H:FuncId→Hint} {T:Table} {f:FuncId} {fn:Func} {c:Code} {as:List AV} {s:List (List AV)} {r:AV} (id k:Nat) (hT:T f=none) (hf:P.funcs[AI.base f]? = some fn) (hb:fn.body=some c)
  (hn:as.length≤fn.ntmps) (hc:codeOk (H f) fn.ntmps c=true) (hg:(fn.name== "runtime.NumGoroutine")=false)
  (hp:pan P (H f) (EV P H T) (PC P H T) id k c ⟨params 0 as,[],s⟩ r) (h9:f<900000:=by decide):PC P H T f as s r :=
 PC_mk hT h9 hf hb hn hc hg (q0x hp)
end
theorem quh {P:Program} {H:FuncId→Hint} {T T':Table} (h0:∀f,T f=none→T' f=none) (h1:∀f p,T f=some p→∃p',T' f=some p'∧∀as s r,p as s=some r→p' as s=some r):∀n,Cle (ev P H T n) (ev P H T' n):=by
 intro n
 induction n with
 | zero=>intro f as s r e;cases e
 | succ n ih =>
  intro f as s r e
  simp only[ev] at e ⊢
  cases hT:T f with
  | some p =>
   rw[hT] at e
   obtain⟨p',hp',hle⟩:=h1 f p hT
   rw[hp']
   exact hle _ _ _ e
  | none =>
   rw[hT] at e
   rw[h0 f hT]
   simp only at e ⊢
   split at e
   ·rename_i h9
    rw[if_pos h9]
    unfold brwE at e ⊢
    obtain⟨bs,hb,e⟩:=qa e
    obtain⟨r1,hc,e⟩:=qa e
    rw[hb];simp only[bnd]
    rw[ih _ _ _ _ hc];exact e
   ·rename_i h9
    rw[if_neg h9]
    obtain⟨fn,hf,e⟩:=qa e
    obtain⟨c,hc,e⟩:=qa e
    rw[hf];simp only[bnd];rw[hc];simp only
    split at e
    ·rename_i hok
     rw[if_pos hok]
     obtain⟨x,st,hx,hxe,ho⟩:=finE_eq e
     rw[hx] at e
     rw[qal ih n c _ (Nat.le_refl _) hx];exact e
    ·cases e
theorem qxz {P:Program} {H:FuncId→Hint} {T T':Table} (h0:∀f,T f=none→T' f=none) (h1:∀f p,T f=some p→∃p',T' f=some p'∧∀as s r,p as s=some r→p' as s=some r)
  {f:FuncId} {as:List AV} {s:List (List AV)} {r:AV×List (List AV)} (e:EV P H T f as s=some r):EV P H T' f as s=some r:=by
 obtain⟨n,hn⟩:=(qc6 r).1 e
 exact (qc6 r).2 ⟨n,quh h0 h1 n f as s r hn⟩
end Go.AI
end
section
namespace Go.AI
open Go.RowKit
set_option linter.unusedVariables false
section
variable {P:Program} {B:Nat} {T0:Nat→Prop} {μ0:Gh} {w0:World} {N:Nat} {μ:Gh} {lx:Nat→Option Nat} {a:Act} {w:World} {st:St} {hh:Hint} {C:Oracle} {CP:Panics} {W0:World}
theorem Sim.rebase (h:Sim B T0 μ0 w0 N μ lx a w st) (d:Deferred):Sim B T0 {μ0 with df:=[d]} w0 N μ lx ⟨a.tmps,[d]⟩ w st where
 defs:=rfl
 size:=h.size
 ext:=⟨h.ext.below,h.ext.same,h.ext.kept,h.ext.fr,h.ext.bx,h.ext.sh,h.ext.mp,fun e=>by cases e⟩
 tmp:=h.tmp
 loc:=h.loc
 glb:=h.glb
 gdom:=h.gdom
 inj:=h.inj
 rng:=h.rng
 fr0:=h.fr0
 hB:=h.hB
 nd:=h.nd
 gbx:=h.gbx
 mdf:=h.mdf
theorem Sim.unbase {ds:List Deferred} (h:Sim B T0 {μ0 with df:=ds} w0 N μ lx a w st) (h0:μ0.df=[]):Sim B T0 μ0 w0 N μ lx ⟨a.tmps,[]⟩ w st where
 defs:=h0.symm
 size:=h.size
 ext:=⟨h.ext.below,h.ext.same,h.ext.kept,h.ext.fr,h.ext.bx,h.ext.sh,h.ext.mp,fun _=>h.mdf⟩
 tmp:=h.tmp
 loc:=h.loc
 glb:=h.glb
 gdom:=h.gdom
 inj:=h.inj
 rng:=h.rng
 fr0:=h.fr0
 hB:=h.hB
 nd:=h.nd
 gbx:=h.gbx
 mdf:=h.mdf
theorem Sim.retmps {a':Act} (h:Sim B T0 μ0 w0 N μ lx a w st) (hs:a'.tmps.size=N) (hd:a'.defers=a.defers) (ht:∀i v,look st.t i=some v→a'.tmps.getD i undef=a.tmps.getD i undef):Sim B T0 μ0 w0 N μ lx a' w st:=by
 have hown:∀l,own a' lx μ w st l=own a lx μ w st l:=by
  intro l
  cases l with
  | t i j =>
   simp only[own]
   cases hq:look st.t i with
   | none=>rfl
   | some u=>simp only[Option.bind_some,ht i u hq]
  | _=>rfl
 constructor
 ·rw[hd];exact h.defs
 ·exact hs
 ·exact h.ext
 ·intro i u hu;rw[ht i u hu];exact h.tmp i u hu
 ·exact h.loc
 ·exact h.glb
 ·exact h.gdom
 ·intro l l' k e e';rw[hown] at e e';exact h.inj l l' k e e'
 ·intro l k e;rw[hown] at e;exact h.rng l k e
 ·exact h.fr0
 ·exact h.hB
 ·exact h.nd
 ·exact h.gbx
 ·exact h.mdf
theorem qui {o:Oper} {f:Operand} {ts:Array TypeId} {g:FuncId} {us:List AV} {K:Act→World→Prop} {Q:Exit→Act→World→Prop} (ho:o.op=.defer ⟨.value f,#[],ts⟩) (hd:o.dst=none) (h:Sim B T0 μ0 w0 N μ lx a w st) (h0:a.defers=[]) (hu:aeval st f=some (.fn g us))
  (k:∀vs:Array Value,vs.size=us.length→(∀j c,us[j]? = some c→Rep B μ w (vs.getD j undef) c∧pers c=true∧quiet c=true)→Sim B T0 {μ0 with df:=[⟨.fn (.func g) vs,#[]⟩]} w0 N μ lx ⟨a.tmps,[⟨.fn (.func g) vs,#[]⟩]⟩ w st→K ⟨a.tmps,[⟨.fn (.func g) vs,#[]⟩]⟩ w):o.wp P a w K Q:=by
 have hr:=(ql h hu).1
 generalize hv:a.eval f=v at hr
 cases hr with
 | fn _ vs _ hl hp hc =>
  have hex:(execOp a.eval o).run P w=.ok (.defer ⟨.fn (.func g) vs,#[]⟩) w:=by
   unfold execOp
   rw[ho]
   simp[resolve,hv,Deferred.ofValue]
  unfold Oper.wp
  rw[hex,Oper.upon_defer,hd,h0]
  have:=k vs hl (fun j c hj=>⟨hc j c hj,hp c (List.mem_of_getElem? hj)⟩) (h.rebase _)
  exact this
end
end Go.AI
end
section
namespace Go.AI
open Go.RowKit
set_option linter.unusedVariables false
inductive PY (P:Program) (hh:Hint) (C:Oracle) (CP:Panics) (Φ:List (Nat×AV)→Prop):Code→St→AV→Prop
 | reg (i:Nat) (ops:Array Oper) (l l':List Oper) (o:Oper) (st st1:St) (r:AV) (hl:ops.toList=l++o::l') (e:runOps P hh C ops.toList l (clean0 hh st)=some st1) (hw:wantedA ops.toList o.guard st1=some true)
   (hp:panOp hh CP o st1 r) (hΦ:Φ st1.t):PY P hh C CP Φ (.region i ops false) st r
 | seqL (x y:Code) (st:St) (r:AV) (h:PY P hh C CP Φ x st r):PY P hh C CP Φ (.seq x y) st r
 | seqR (x y:Code) (st st1:St) (r:AV) (h1:EXEC P hh C x st=some (.normal,st1)) (h:PY P hh C CP Φ y st1 r):PY P hh C CP Φ (.seq x y) st r
 | condT (c:Operand) (x y:Code) (st:St) (r:AV) (hc:aeval st c=some (.bool true)) (h:PY P hh C CP Φ x st r):PY P hh C CP Φ (.cond c x y) st r
 | condF (c:Operand) (x y:Code) (st:St) (r:AV) (hc:aeval st c=some (.bool false)) (h:PY P hh C CP Φ y st r):PY P hh C CP Φ (.cond c x y) st r
 | block (i:Nat) (c:Code) (st:St) (r:AV) (h:PY P hh C CP Φ c st r):PY P hh C CP Φ (.block i c) st r
 | loop0 (c:Code) (st:St) (r:AV) (h:PY P hh C CP Φ c (head hh (rid c) st) r):PY P hh C CP Φ (.loop c) st r
 | loop1 (c:Code) (st st1:St) (r:AV) (h1:EXEC P hh C c (head hh (rid c) st)=some (.normal,st1)) (h:PY P hh C CP Φ (.loop c) st1 r):PY P hh C CP Φ (.loop c) st r
section
variable {P:Program} {B:Nat} {T0:Nat→Prop} {μ0:Gh} {w0:World} {N:Nat} {μ:Gh} {lx:Nat→Option Nat} {a:Act} {w:World} {st:St} {hh:Hint} {C:Oracle} {CP:Panics} {W0:World} {Φ:List (Nat×AV)→Prop}
def PQy (B:Nat) (T0:Nat→Prop) (μ0:Gh) (w0:World) (N:Nat) (r:AV) (Φ:List (Nat×AV)→Prop) (Q:Exit→Act→World→Prop):Prop:=∀t,Φ t→PQt B T0 μ0 w0 N r t Q
theorem qke {ops:Array Oper} {Q:Exit→Act→World→Prop} {r:AV} (hW:Below B W0 w0) (hC:OracleOk P B W0 C) (hP:PanOk P B W0 CP) (k:PQy B T0 μ0 w0 N r Φ Q):∀(l l':List Oper) (o:Oper) {st st':St} {μ:Gh} {lx:Nat→Option Nat} {a:Act} {w:World},
  Sim B T0 μ0 w0 N μ lx a w st→opsOk N l=true→runOps P hh C ops.toList l st=some st'→wantedA ops.toList o.guard st'=some true→panOp hh CP o st' r→Φ st'.t→wpList P ops Q (l++o::l') a w:=by
 intro l l' o
 induction l with
 | nil =>
  intro st st' μ lx a w h _ e hw hp hΦ
  injection e with e;subst e
  simp only[List.nil_append,wpList]
  rw[qae h hw]
  exact .inl (qd8 h hW hP hp (k _ hΦ))
 | cons p r ih =>
  intro st st' μ lx a w h hok e hwo hp hΦ
  simp only[opsOk,Bool.and_eq_true] at hok
  have hd:∀n,p.dst=some n→n<N:=fun n hn=>by have:=hok.1;rw[hn] at this;simpa using this
  simp only[runOps] at e
  simp only[List.cons_append,wpList]
  cases hw:wantedA ops.toList p.guard st with
  | none=>rw[hw] at e;cases e
  | some b =>
   rw[hw] at e
   rw[qae h hw]
   cases b with
   | true =>
    simp only[sel] at e
    obtain⟨st1,h1,e⟩:=qa e
    refine .inl (qbo h hW hC hd h1 _ _ fun μ' lx' a' w' hs=>ih hs hok.2 e hwo hp hΦ)
   | false =>
    simp only[sel] at e
    simp only[Bool.false_eq_true,if_false]
    exact ih (qcc h hd) hok.2 e hwo hp hΦ
theorem quj (hm:P.follows .mixedOrders=true) (hW:Below B W0 w0) (hC:OracleOk P B W0 C) (hP:PanOk P B W0 CP) {c:Code} {st:St} {r:AV} (h:PY P hh C CP Φ c st r):∀{μ:Gh} {lx:Nat→Option Nat} {a:Act} {w:World} {Q:Exit→Act→World→Prop},
  Sim B T0 μ0 w0 N μ lx a w st→codeOk hh N c=true→PQy B T0 μ0 w0 N r Φ Q→c.wp P Q a w∧(∀c',c=.loop c'→LW P c' Q a w):=by
 induction h with
 | reg i ops l l' o st st1 r hl e hw hp hΦ =>
  intro μ lx a w Q hs hok k
  simp only[codeOk,Bool.and_eq_true,Bool.or_eq_true,Bool.not_eq_true'] at hok
  refine⟨wp_region_list ?_,fun c' e=>by cases e⟩
  have hokl:opsOk N l=true:=by
   have:=hok.1
   rw[hl] at this
   have go:∀l:List Oper,opsOk N (l++o::l')=true→opsOk N l=true:=by
    intro l
    induction l with
    | nil=>intro _;rfl
    | cons p q ih=>intro h;simp only[List.cons_append,opsOk,Bool.and_eq_true] at h ⊢;exact⟨h.1,ih h.2⟩
   exact go l this
  rw[hl]
  exact qke hW hC hP k l l' o hs.clean0 hokl e hw hp hΦ
 | seqL x y st r h ih =>
  intro μ lx a w Q hs hok k
  simp only[codeOk,Bool.and_eq_true] at hok
  exact⟨wp_seq (ih (Q:=Exit.then (y.wp P Q) Q) hs hok.1 fun t ht μ' lx' a' w' st' v h1 h2 h3 h4=>k t ht μ' lx' a' w' st' v h1 h2 h3 h4).1,fun c' e=>by cases e⟩
 | seqR x y st st1 r h1 h ih =>
  intro μ lx a w Q hs hok k
  simp only[codeOk,Bool.and_eq_true] at hok
  refine⟨wp_seq ?_,fun c' e=>by cases e⟩
  obtain⟨m,hm1⟩:=(qt _).1 h1
  exact (qas hW hC (qai hm) m x st hs hok.1 hm1 fun μ' lx' a' w' hs'=>(ih hs' hok.2 k).1).1
 | condT c x y st r hc h ih =>
  intro μ lx a w Q hs hok k
  simp only[codeOk,Bool.and_eq_true] at hok
  have hb:a.eval c=.bool true:=by
   have:=(ql hs hc).1
   generalize a.eval c=u at this
   cases this;rfl
  exact⟨wp_cond_true hb (ih hs hok.1 k).1,fun c' e=>by cases e⟩
 | condF c x y st r hc h ih =>
  intro μ lx a w Q hs hok k
  simp only[codeOk,Bool.and_eq_true] at hok
  have hb:a.eval c=.bool false:=by
   have:=(ql hs hc).1
   generalize a.eval c=u at this
   cases this;rfl
  exact⟨wp_cond_false hb (ih hs hok.2 k).1,fun c' e=>by cases e⟩
 | block i c st r h ih =>
  intro μ lx a w Q hs hok k
  simp only[codeOk] at hok
  exact⟨wp_block (ih (Q:=Exit.inBlock i Q) hs hok fun t ht μ' lx' a' w' st' v h1 h2 h3 h4=>k t ht μ' lx' a' w' st' v h1 h2 h3 h4).1,fun c' e=>by cases e⟩
 | loop0 c st r h ih =>
  intro μ lx a w Q hs hok k
  have hok':codeOk hh N c=true:=hok
  have hl:LW P c Q a w:=LW.round (ih (Q:=Exit.then (LW P c Q) Q) hs.head hok' fun t ht μ' lx' a' w' st' v h1 h2 h3 h4=>k t ht μ' lx' a' w' st' v h1 h2 h3 h4).1
  exact⟨hl.wp,fun c' e=>by injection e with e;subst e;exact hl⟩
 | loop1 c st st1 r h1 h ih =>
  intro μ lx a w Q hs hok k
  have hok':codeOk hh N c=true:=hok
  obtain⟨m,hm1⟩:=(qt _).1 h1
  have hl:LW P c Q a w:=LW.round (qas hW hC (qai hm) m c _ hs.head hok' hm1 fun μ' lx' a' w' hs'=>(ih hs' hok k).2 c rfl).1
  exact⟨hl.wp,fun c' e=>by injection e with e;subst e;exact hl⟩
end
section
variable (P:Program) (hh:Hint) (C:Oracle) (CP:Panics) (Φ:List (Nat×AV)→Prop)
def pay (id k:Nat):Code→St→AV→Prop
 | .region i ops false,st,r=>i=id∧bndP ops.toList[k]? fun o=>bndP (runOps P hh C ops.toList (ops.toList.take k) (clean0 hh st)) fun st1=>wantedA ops.toList o.guard st1=some true∧panOp hh CP o st1 r∧Φ st1.t
 | .seq a b,st,r=>if hasR id a then pay id k a st r else Post (EXEC P hh C a st) fun e st1=>(match e with|.normal=>True|_=>False)∧pay id k b st1 r
 | .cond c a b,st,r=>bndP (aeval st c) fun v=>match v with
  | .bool t=>if t then pay id k a st r else pay id k b st r
  | _=>False
 | .block _ a,st,r=>pay id k a st r
 | .loop a,st,r=>PY P hh C CP Φ (.loop a) st r
 | _,_,_=>False
end
section
variable {P:Program} {hh:Hint} {C:Oracle} {CP:Panics} {Φ:List (Nat×AV)→Prop}
theorem qwl {id k:Nat}:∀{c:Code} {st:St} {r:AV},pay P hh C CP Φ id k c st r→PY P hh C CP Φ c st r:=by
 intro c
 induction c with
 | region i ops draw =>
  intro st r h
  cases draw with
  | false =>
   simp only[pay] at h
   obtain⟨_,h⟩:=h
   obtain⟨o,ho,h⟩:=qau h
   obtain⟨st1,e,hw,hp,hΦ⟩:=qau h
   refine .reg i ops (ops.toList.take k) (ops.toList.drop (k+1)) o st st1 r ?_ e hw hp hΦ
   obtain⟨hk,ho2⟩:=List.getElem?_eq_some_iff.1 ho
   rw[← ho2,← List.drop_eq_getElem_cons hk,List.take_append_drop]
  | true=>simp only[pay] at h
 | seq a b iha ihb =>
  intro st r h
  simp only[pay] at h
  split at h
  ·exact .seqL a b st r (iha h)
  ·obtain⟨e,st1,h1,h2,h3⟩:=h
   cases e with
   | normal=>exact .seqR a b st st1 r h1 (ihb h3)
   | _=>exact h2.elim
 | cond c a b iha ihb =>
  intro st r h
  simp only[pay] at h
  obtain⟨v,hv,h⟩:=qau h
  cases v with
  | bool t =>
   cases t with
   | true=>exact .condT c a b st r hv (iha h)
   | false=>exact .condF c a b st r hv (ihb h)
  | _=>exact h.elim
 | block i a ih=>intro st r h;exact .block i a st r (ih h)
 | loop a ih=>intro st r h;exact h
 | _=>intro st r h;exact h.elim
@[simp ↓] theorem qzx {id k i:Nat} {l:List Oper} {st:St} {r:AV}:pay P hh C CP Φ id k (.region i (List.toArray l) false) st r=(i=id∧strict (clean0 hh st) fun st=>bndP l[k]? fun o=>bndP (runOps P hh C l (l.take k) st) fun st1=>wantedA l o.guard st1=some true∧panOp hh CP o st1 r∧Φ st1.t):=nrfl rfl
@[simp ↓] theorem pay_seq {id k:Nat} {a b:Code} {st:St} {r:AV}:pay P hh C CP Φ id k (.seq a b) st r=(if hasR id a=true then pay P hh C CP Φ id k a st r else Post (EXEC P hh C a st) fun e st1=>(match e with|.normal=>True|_=>False)∧pay P hh C CP Φ id k b st1 r):=nrfl rfl
@[simp ↓] theorem pay_cond {id k:Nat} {c:Operand} {a b:Code} {st:St} {r:AV}:pay P hh C CP Φ id k (.cond c a b) st r=(bndP (aeval st c) fun v=>match v with
  | .bool t=>if t=true then pay P hh C CP Φ id k a st r else pay P hh C CP Φ id k b st r
  | _=>False):=nrfl rfl
@[simp ↓] theorem q00 {id k i:Nat} {a:Code} {st:St} {r:AV}:pay P hh C CP Φ id k (.block i a) st r=pay P hh C CP Φ id k a st r:=nrfl rfl
@[simp ↓] theorem pay_loop {id k:Nat} {a:Code} {st:St} {r:AV}:pay P hh C CP Φ id k (.loop a) st r=PY P hh C CP Φ (.loop a) st r:=nrfl rfl
@[congr] theorem q01 {id k:Nat} {c:Code} {s t:St} {r:AV} (e:s=t):pay P hh C CP Φ id k c s r=pay P hh C CP Φ id k c t r:=by rw[e]
theorem qx0 {α:Type} (I:α→St) (Pr:α→Prop) (μ:α→Nat) (a:α) {c:Code} {r:AV} {st:St} (h0:head hh (rid c) st=I a) (hP:Pr a)
  (h:∀a,Pr a→PY P hh C CP Φ c (I a) r∨Post (EXEC P hh C c (I a)) (roundK hh (rid c) I Pr μ a fun _ _=>False)) :
  PY P hh C CP Φ (.loop c) st r:=by
 generalize hn:μ a=n
 induction n using Nat.strongRecOn generalizing a st with
 | _ n ih =>
  rcases h a hP with h1|⟨e,st1,h1,h2⟩
  ·exact .loop0 c _ r (by rw[h0];exact h1)
  ·cases e with
   | normal =>
    obtain⟨b,hb,hlt,hd⟩:=h2
    exact .loop1 c _ st1 r (by rw[h0];exact h1) (ih (μ b) (hn▸hlt) b hd hb rfl)
   | _=>exact h2.elim
end
section
variable {P:Program} {B:Nat} {T0:Nat→Prop} {μ0:Gh} {w0:World} {N:Nat} {μ:Gh} {lx:Nat→Option Nat} {a:Act} {w:World} {st:St}
theorem Sim.wipe (h:Sim B T0 μ0 w0 N μ lx a w st) (t':List (Nat×AV)) (hsub:∀i v,look t' i=some v→look st.t i=some v) (hq:∀i v,look t' i=some v→quiet v=true∧pers v=true) (hnd:(t'.map (·.1)).Nodup) :
  Sim B (fun _=>False) {μ with df:=a.defers} w N μ (fun _=>none) a w ⟨t',[],st.s.map fun _=>[]⟩:=by
 have hno:∀l k,own a (fun _=>none) μ w ⟨t',[],st.s.map fun _=>[]⟩ l≠some k:=by
  intro l k e
  cases l with
  | t i j =>
   simp only[own] at e
   cases hl:look t' i with
   | none=>rw[hl] at e;cases e
   | some v =>
    rw[hl] at e
    obtain⟨q1,q2⟩:=hq i v hl
    cases j with
    | none=>simp only[Option.bind_some,ownV] at e;rw[qq q1] at e;cases e
    | some j=>cases v<;>first|(simp[ownV] at e;done)|simp[pers] at q2
  | l d=>simp[own,look] at e
  | lc d j=>simp[own,look,ownB] at e
  | g b =>
   simp only[own,List.getElem?_map] at e
   cases hb:st.s[b]? with
   | none=>rw[hb] at e;cases e
   | some cs=>rw[hb] at e;cases e
  | gc b j =>
   simp only[own,ownB,List.getElem?_map] at e
   cases hb:st.s[b]? with
   | none=>rw[hb] at e;cases e
   | some cs=>rw[hb] at e;cases hx:μ.bx b<;>(rw[hx] at e;cases e)
 constructor
 ·rfl
 ·exact h.size
 ·exact⟨Below.refl _ _,fun _ _ _=>⟨rfl,rfl⟩,fun _ _ _ _=>rfl,fun _ _=>Nat.le_refl _,fun _ _ e=>e,fun _ _ e=>e,fun _ _ _ e=>e,fun _=>h.mdf⟩
 ·intro i v e
  have:=h.tmp i v (hsub i v e)
  have hp:=(hq i v e).2
  cases v with
  | lp d i=>simp[pers] at hp
  | _=>exact this
 ·intro d cs e;simp[look] at e
 ·intro b cs blk e _ hne
  simp only[List.getElem?_map] at e
  cases hb:st.s[b]? with
  | none=>rw[hb] at e;cases e
  | some c=>rw[hb] at e;injection e with e;exact absurd e.symm hne
 ·intro b hb;exact h.gdom b (by simpa using hb)
 ·intro l l' k e;exact absurd e (hno l k)
 ·intro l k e;exact absurd e (hno l k)
 ·exact h.fr0
 ·exact h.hB
 ·exact hnd
 ·intro b hb;exact h.gbx b (by simpa using hb)
 ·exact h.mdf
theorem Sim.unwipe {N':Nat} {μ':Gh} {lx':Nat→Option Nat} {a':Act} {w':World} {st':St} {ds:List Deferred} (h:Sim B T0 μ0 w0 N μ lx a w st) (k:Sim B (fun _=>False) {μ with df:=ds} w N' μ' lx' a' w' st') :
  Sim B T0 μ0 w0 N ⟨μ'.fr,μ.bx,[]⟩ lx a w' st∧Ext B (fun _=>False) μ w ⟨μ'.fr,μ.bx,[]⟩ w':=by
 have x:=k.ext
 have x2:Ext B (fun _=>False) μ w ⟨μ'.fr,μ.bx,[]⟩ w':=⟨x.below,x.same,x.kept,x.fr,fun _ _ e=>e,x.sh,x.mp,fun _=>rfl⟩
 exact⟨(h.grow x2 (fun _ _ _ t=>t.elim) (fun _ _ t=>t.elim) h.gdom k.fr0 (fun _ _=>rfl)).1,x2⟩
theorem qlv {N':Nat} {μ':Gh} {lx':Nat→Option Nat} {a':Act} {w':World} {st':St} {ds:List Deferred} (h:Sim B T0 μ0 w0 N μ lx a w st) (k:Sim B (fun _=>False) {μ with df:=ds} w N' μ' lx' a' w' st') {i b o:Nat} {s s':Option (TypeId×Nat)}
  (h1:look st.t i=some (.gp b o s)) (h2:look st'.t i=some (.gp b o s')):a'.tmps.getD i undef=a.tmps.getD i undef:=by
 have r1:=(h.tmp i _ h1).1
 have r2:=(k.tmp i _ h2).1
 generalize a.tmps.getD i undef=v at r1
 generalize a'.tmps.getD i undef=v' at r2
 cases r1 with
 | gp _ _ blk _ e1 _ =>
  cases r2 with
  | gp _ _ blk' _ e2 _ =>
   have:=k.ext.bx b blk e1
   rw[e2] at this
   injection this with this
   rw[this]
end
end Go.AI
end
section
namespace Go.AI
open Go.RowKit Go.ChangeShapes
set_option linter.unusedVariables false
theorem plain_addr {w:World} {a:Addr} {v:Value} (h:w.cell? a=some v):∃b off,a=⟨b,off,none⟩:=by
 obtain⟨b,off,s⟩:=a
 cases s with
 | none=>exact⟨b,off,rfl⟩
 | some s =>
  simp only[World.cell?] at h
  split at h<;>simp at h
section
variable {H:Type} {enc:TypeId×Value→H} {P:Program} {W:World} {t e:TypeId} {α:Type}
structure Reads (enc:TypeId×Value→H) (P:Program) (W:World) (t:TypeId) {α:Type} (R:α→AV) (Q:α→DataW H→Prop):Prop where
 cells:∀a,(R a).cells.length=P.cellsOf t∧(∀c∈(R a).cells,plain c=true)
 pos:0<P.cellsOf t
 rd:∀fuel cs x,DataW.trod enc P W 0 (fun _=>true) true fuel t cs=some x→∃a,Q a x.1∧cs.length=P.cellsOf t∧∀j c,(R a).cells[j]? = some c→Rep W.heap.size gh0 W (cs.getD j undef) c
theorem qdr {v:Value} {c:AV} (h:Rep W.heap.size gh0 W v c):∀j c',[c][j]? = some c'→Rep W.heap.size gh0 W ([v].getD j undef) c':=by
 intro j c' e
 cases j with
 | zero=>simp at e;subst e;exact h
 | succ j=>simp at e
theorem Reads.int {k:IntKind} (ht:P.underlying t=some (.int k)) (hc:P.cellsOf t=1):Reads enc P W t (fun n:Int=>AV.int k n) (fun n d=>d=.lit (.int k n)∧(Lit.int k n).wf=true):=by
 refine⟨fun a=>⟨by rw[hc];rfl,fun c h=>by simp[AV.cells] at h;subst h;rfl⟩,by omega,fun fuel cs x h=>?_⟩
 obtain⟨n,rfl,rfl,hw⟩:=DataW.trod_int ht h
 exact⟨n,⟨rfl,hw⟩,by simp[hc],qdr (.int k n)⟩
theorem Reads.u8 (ht:P.underlying t=some (.int .u8)) (hc:P.cellsOf t=1):Reads enc P W t AV.u8 (fun n d=>d=.lit (.int .u8 n.toNat)):=by
 refine⟨fun a=>⟨by rw[hc];rfl,fun c h=>by simp[AV.cells,AV.u8] at h;subst h;rfl⟩,by omega,fun fuel cs x h=>?_⟩
 obtain⟨n,rfl,rfl,hw⟩:=DataW.trod_int ht h
 have hb:=bounds_u8 hw
 obtain⟨m,rfl⟩:=Int.eq_ofNat_of_zero_le hb.1
 have hm:(UInt8.ofNat m).toNat=m:=by simp only[UInt8.toNat_ofNat'];omega
 exact⟨UInt8.ofNat m,by rw[hm],by simp[hc],qdr (by rw[AV.u8,hm];exact .int _ _)⟩
theorem Reads.bool (ht:P.underlying t=some .bool) (hc:P.cellsOf t=1):Reads enc P W t AV.bool (fun b d=>d=.lit (.bool b)):=by
 refine⟨fun a=>⟨by rw[hc];rfl,fun c h=>by simp[AV.cells] at h;subst h;rfl⟩,by omega,fun fuel cs x h=>?_⟩
 cases fuel with
 | zero=>simp[DataW.trod] at h
 | succ n =>
  unfold DataW.trod at h
  rw[ht] at h
  split at h
  all_goals first
   | (rename_i b _;injection h with h;subst h;exact⟨b,rfl,by simp[hc],qdr (.bool _)⟩)
   | (simp at *;done)
theorem Reads.str (ht:P.underlying t=some .string) (hc:P.cellsOf t=1):Reads enc P W t AV.str (fun s d=>d=.lit (.string s)∧s.length≤maxLen):=by
 refine⟨fun a=>⟨by rw[hc];rfl,fun c h=>by simp[AV.cells] at h;subst h;rfl⟩,by omega,fun fuel cs x h=>?_⟩
 obtain⟨s,rfl,rfl,hw⟩:=DataW.trod_string ht h
 exact⟨s.data.toList,⟨rfl,by simpa using hw⟩,by simp[hc],qdr (.str s)⟩
theorem qqv {w:World} {a:Addr} {n:Nat} {cs:List Value} (h:w.cells? 0 a n=some cs):cs.length=n∧∀j,j<n→w.cell? (a.add j)=some (cs.getD j undef):=by
 unfold World.cells? at h
 rw[if_pos (Nat.zero_le _)] at h
 have hl:=mapM_some_length h
 refine⟨by simpa using hl,fun j hj=>?_⟩
 have h1:=mapM_some_get h j j (by simp[hj])
 have hlt:j<cs.length:=by rw[hl];simpa using hj
 rw[h1,List.getElem?_eq_getElem hlt]
 simp[List.getD,List.getElem?_eq_getElem hlt]
theorem flat_at {α:Type} {R:α→AV} (l:List α) (i j:Nat) (c:AV) (h:((l.map R)[i]?.bind fun e=>e.cells[j]?)=some c):∃a,l[i]? = some a∧(R a).cells[j]? = some c:=by
 rw[List.getElem?_map] at h
 cases hx:l[i]? with
 | none=>rw[hx] at h;cases h
 | some a=>rw[hx] at h;exact⟨a,rfl,h⟩
theorem qlw {α:Type} {Q:Nat→α→Prop} (n:Nat) (h:∀i,i<n→∃z,Q i z):∃l:List α,l.length=n∧∀(i:Nat) (z:α),l[i]? = some z→Q i z:=by
 induction n with
 | zero=>exact⟨[],rfl,fun i z e=>by simp at e⟩
 | succ n ih =>
  obtain⟨l,hl,hq⟩:=ih fun i hi=>h i (by omega)
  obtain⟨z,hz⟩:=h n (by omega)
  refine⟨l++[z],by simp[hl],fun i y e=>?_⟩
  rw[List.getElem?_append] at e
  split at e
  ·exact hq i y e
  ·rename_i hi
   have:i=n:=by
    rcases Nat.lt_or_ge (i-l.length) 1 with q|q
    ·omega
    ·rw[List.getElem?_eq_none (by simpa using q)] at e;cases e
   subst this
   simp[hl] at e;subst e;exact hz
def slQ {α:Type} (Q:α→DataW H→Prop) (l:List α) (d:DataW H):Prop :=
 (l=[]∧d=.nil)∨∃ds rest,d=.slice ds rest∧l.length=ds.length∧l.length≤maxLen∧∀(i:Nat) (a:α) (x:DataW H),l[i]? = some a→ds[i]? = some x→Q a x
theorem Reads.slice {R:α→AV} {Q:α→DataW H→Prop} (h:Reads enc P W e R Q) (ht:P.underlying t=some (.slice e)) (hc:P.cellsOf t=1):Reads enc P W t (fun l:List α=>AV.sl .sh (l.map R)) (slQ Q):=by
 refine⟨fun a=>⟨by rw[hc];rfl,fun c q=>by simp[AV.cells] at q;subst q;rfl⟩,by omega,fun fuel cs x hx=>?_⟩
 rcases Go.Deep.open_slice ht hx with ⟨rfl,rfl⟩|⟨a,len,cap,m,n,D,Pl,rfl,hb,hl,hm,hm2,rfl,hel⟩
 ·exact⟨[],.inl ⟨rfl,rfl⟩,by simp[hc],qdr (.slnil _)⟩
 ·simp only[if_true] at hm2
  subst hm2
  obtain⟨l,hl2,hq⟩:=qlw (Q:=fun i (z:α)=>Q z (D i)∧∀j,j<P.cellsOf e→∃v,W.cell? ((a.add (i*P.cellsOf e)).add j)=some v∧∀c,(R z).cells[j]? = some c→Rep W.heap.size gh0 W v c) len (by
   intro i hi
   obtain⟨cs',h1,h2⟩:=hel i (by omega)
   obtain⟨z,h3,h4,h5⟩:=h.rd _ _ _ h2
   obtain⟨h6,h7⟩:=qqv h1
   exact⟨z,h3,fun j hj=>⟨_,h7 j hj,fun c hc=>h5 j c hc⟩⟩)
  subst hl2
  refine⟨l,.inr ⟨_,_,rfl,by simp,by omega,fun i z x h1 h2=>?_⟩,by simp[hc],qdr ?_⟩
  ·have hi:i<l.length:=(List.getElem?_eq_some_iff.1 h1).1
   rw[List.getElem?_map,List.getElem?_range hi] at h2
   simp at h2;subst h2
   exact (hq i z h1).1
  ·by_cases h0:l=[]
   ·subst h0;exact   .sl0 a m .sh (by simp) hm
   ·have hpos:=h.pos
    have hlen:0<l.length:=List.length_pos_iff.2 h0
    obtain⟨z0,hz0⟩:∃z,l[0]? = some z:=⟨_,List.getElem?_eq_getElem hlen⟩
    obtain⟨v0,hv0,_⟩:=(hq 0 z0 hz0).2 0 hpos
    have hadd:∀(a:Addr) (i:Nat) b off,a=⟨b,off,none⟩→a.add i=⟨b,off+i,none⟩:=fun a i b off q=>by subst q;unfold Addr.add;split<;>simp_all
    obtain⟨b,off,rfl⟩:∃b off,a=⟨b,off,none⟩:=by
     obtain⟨b,off,s⟩:=a
     cases s with
     | none=>exact⟨b,off,rfl⟩
     | some s =>
      obtain⟨b',off',q⟩:=plain_addr hv0
      simp[Addr.add] at q
    have hrl:(l.map R).length=l.length:=by simp
    rw[← hrl]
    rw[hadd _ _ b off rfl,hadd _ _ b _ rfl] at hv0
    have hblk:b<W.heap.size:=World.block_lt_of_cell? W _ hv0
    have hall:∀k,k<l.length*P.cellsOf e→∃z v,l[k/P.cellsOf e]? = some z∧W.cell? ⟨b,off+k,none⟩=some v∧∀c,(R z).cells[k%P.cellsOf e]? = some c→Rep W.heap.size gh0 W v c:=by
     intro k hk
     have hki:k/P.cellsOf e<l.length:=(Nat.div_lt_iff_lt_mul hpos).2 hk
     obtain⟨z,hz⟩:∃z,l[k/P.cellsOf e]? = some z:=⟨_,List.getElem?_eq_getElem hki⟩
     obtain⟨v,hv,hr⟩:=(hq _ z hz).2 (k%P.cellsOf e) (Nat.mod_lt _ hpos)
     have:(Addr.add (Addr.add ⟨b,off,none⟩ (k/P.cellsOf e*P.cellsOf e)) (k%P.cellsOf e))=⟨b,off+k,none⟩:=by
      rw[hadd _ _ b off rfl,hadd _ _ b _ rfl]
      have:=Nat.div_add_mod k (P.cellsOf e)
      rw[Nat.mul_comm] at this
      rw[Nat.add_assoc,this]
     rw[this] at hv
     exact⟨z,v,hz,hv,hr⟩
    refine .sl b off m (P.cellsOf e) .sh (l.map R) (fun k=>(W.cell? ⟨b,off+k,none⟩).getD undef) (by simp) hpos (by simpa using hl) hm ?_ ?_ ?_
    ·intro x hx
     obtain⟨z,_,rfl⟩:=List.mem_map.1 hx
     exact h.cells z
    ·intro k hk
     obtain⟨z,v,h1,h2,h3⟩:=hall k (by simpa using hk)
     exact⟨by rw[h2];rfl,.inl hblk⟩
    ·intro i j c hc'
     obtain⟨z,hz,hzc⟩:=flat_at l i j c hc'
     have hi:i<l.length:=(List.getElem?_eq_some_iff.1 hz).1
     have hj:j<P.cellsOf e:=by rw[← (h.cells z).1];exact (List.getElem?_eq_some_iff.1 hzc).1
     obtain⟨z',v,h1,h2,h3⟩:=hall (i*P.cellsOf e+j) (by
      have:(i+1)*P.cellsOf e≤l.length*P.cellsOf e:=Nat.mul_le_mul_right _ hi
      rw[Nat.add_mul] at this;omega)
     have e1:(i*P.cellsOf e+j)/P.cellsOf e=i:=by rw[Nat.mul_comm,Nat.mul_add_div hpos,Nat.div_eq_of_lt hj];rfl
     have e2:(i*P.cellsOf e+j)%P.cellsOf e=j:=by rw[Nat.mul_comm,Nat.mul_add_mod,Nat.mod_eq_of_lt hj]
     rw[e1,hz] at h1;injection h1 with h1;subst h1
     rw[e2] at h3
     simp only[h2,Option.getD_some]
     exact h3 c hzc
def oneT (d:Option TypeDesc):Bool:=match d with
 | some (.int _)=>true
 | some .string=>true
 | some .bool=>true
 | some (.slice _)=>true
 | _=>false
theorem Reads.argS {R:α→AV} {Q:α→DataW H→Prop} (h:Reads enc P W t R Q) (hR:∀a,∃cs,R a=.agg cs) {fs:Array Field} (hk:P.underlying t=some (.struct fs)) {r:Reach} {b0:Nat} {v:Value} {d:DataW H} {p:List MemPlace}
  (hv:Value.okWide P W r b0 t v) (ht:DataW.Trod enc P W 0 (fun _=>true) true t v d p):∃a,Q a d∧Rep W.heap.size gh0 W v (R a)∧pers (R a)=true∧quiet (R a)=true:=by
 obtain⟨fuel,hf⟩:=ht
 unfold Value.okWide at hv
 rw[hk] at hv
 obtain⟨vs,rfl,_,_⟩:=hv
 obtain⟨a,h1,h2,h3⟩:=h.rd _ _ _ hf
 obtain⟨cs,hcs⟩:=hR a
 have h4:=h.cells a
 rw[hcs] at h4 h3
 simp only[Value.cells,AV.cells] at h2 h3 h4
 refine⟨a,h1,?_⟩
 rw[hcs]
 refine⟨.agg vs cs (by rw[h4.1,← h2];simp) h4.2 fun j c hc=>?_,rfl,rfl⟩
 have:=h3 j c hc
 simpa[Array.getD_eq_getD_getElem?,List.getD] using this
theorem trodAll_keep (hl:laidOutB P=true) {W':World} (hb:Below W.heap.size W W'):∀{ts:List TypeId} {vs:List Value} {ds:List (DataW H)} {ps:List MemPlace},(∀t∈ts,P.readableRec t=true∧t<P.types.size) →
  DataW.TrodAll enc P W 0 (fun _=>true) true ts vs ds ps→(∀x∈ps,x.block<W.heap.size)→DataW.TrodAll enc P W' 0 (fun b=>decide (b<W.heap.size)) true ts vs ds ps
 | [],[],[],ps,_,h,_=>h
 | t::ts,[],[],ps,_,h,_=>by simp[DataW.TrodAll] at h
 | [],v::vs,[],ps,_,h,_=>by simp[DataW.TrodAll] at h
 | [],[],d::ds,ps,_,h,_=>by simp[DataW.TrodAll] at h
 | t::ts,v::vs,[],ps,_,h,_=>by simp[DataW.TrodAll] at h
 | t::ts,[],d::ds,ps,_,h,_=>by simp[DataW.TrodAll] at h
 | [],v::vs,d::ds,ps,_,h,_=>by simp[DataW.TrodAll] at h
 | t::ts,v::vs,d::ds,ps,ht,h,hp=>by
  obtain⟨p,q,h1,h2,rfl⟩:=h
  refine⟨p,q,Below.trod hl (ht t (by simp)).1 (ht t (by simp)).2 h1 hb fun x hx=>hp x (List.mem_append_left _ hx),?_,rfl⟩
  exact trodAll_keep hl hb (fun t h=>ht t (List.mem_cons_of_mem _ h)) h2 fun x hx=>hp x (List.mem_append_right _ hx)
theorem qff {w:World}:∀{laid:List (String×DataW Unit)} {ps:List MemPlace} {n:String} {d:DataW Unit},DataW.LaidVars P w laid ps→(n,d)∈laid →
  ∃g t cs fuel p,P.globalNamed n=some g∧(P.globals[g]?).map (·.type)=some t∧w.var? P n=some cs∧DataW.trod (fun _=>()) P w 0 (fun _=>true) false fuel t cs.toList=some (d,p)
 | [],_,_,_,_,hm=>by cases hm
 | x::r,ps,n,d,h,hm=>by
  obtain⟨g,t,cs,fuel,p,q,h1,h2,h3,h4,h5,_⟩:=h
  rcases List.mem_cons.1 hm with e|hm
  ·subst e;exact⟨g,t,cs,fuel,p,h1,h2,h3,h4⟩
  ·exact qff h5 hm
theorem tabIs_of_mem {name:String} {k:IntKind} {zs:List Int} {laid:List (String×DataW Unit)} {g:Nat} {n:Nat} (hm:(name,Lib.tabData k zs)∈laid)
  (hg:P.globalNamed name=some g) (hty:(P.globals[g]?).map (·.type)=some t) (ht:P.underlying t=some (.array n e)) (he:P.underlying e=some (.int k)) (hce:P.cellsOf e=1) (hct:P.cellsOf t=n)
  (h:laidMet P laid W):Lib.TabIs P W name k zs:=by
 obtain⟨ps,hl,_⟩:=h
 obtain⟨g',t',cs,fuel,p,hg',ht',hvar,hd⟩:=qff hl hm
 obtain rfl:=Option.some.inj (hg.symm.trans hg')
 obtain rfl:=Option.some.inj (hty.symm.trans ht')
 unfold Lib.TabIs
 rw[hvar,← Lib.cells_of_tab ht he hce hct hd]
end
end Go.AI
end
section
namespace Go.AI
open Go.RowKit Go.ChangeShapes Go.Deep Go.Joins
set_option linter.unusedVariables false
section
variable {H:Type} {enc:TypeId×Value→H} {P:Program} {W:World} {t e:TypeId}
theorem qax {W:World} {cs:List Value} {off n:Nat} {l:List AV} (h:∀(j:Nat) (c:AV),l[j]? = some c→Rep W.heap.size gh0 W (((cs.drop off).take n).getD j undef) c) (hl:l.length≤n) :
  ∀(j:Nat) (c:AV),l[j]? = some c→Rep W.heap.size gh0 W (cs.getD (off+j) undef) c:=by
 intro j c hc
 have:=h j c hc
 have hj:j<n:=Nat.lt_of_lt_of_le (List.getElem?_eq_some_iff.1 hc).1 hl
 simpa[List.getD,List.getElem?_take,hj,List.getElem?_drop] using this
def st2R {α β:Type} (R0:α→AV) (R1:β→AV) (x:α×β):AV:=.agg ((R0 x.1).cells++(R1 x.2).cells)
def st2Q {α β:Type} (Q0:α→DataW H→Prop) (Q1:β→DataW H→Prop) (x:α×β) (d:DataW H):Prop:=∃d0 d1,d=.agg [d0,d1]∧Q0 x.1 d0∧Q1 x.2 d1
theorem Reads.struct2 {α β:Type} {R0:α→AV} {Q0:α→DataW H→Prop} {R1:β→AV} {Q1:β→DataW H→Prop} {f0 f1:Field} (h0:Reads enc P W f0.type R0 Q0) (h1:Reads enc P W f1.type R1 Q1)
  (ht:P.underlying t=some (.struct #[f0,f1])) (o0:f0.offset=0) (o1:f1.offset=P.cellsOf f0.type) (hc:P.cellsOf t=P.cellsOf f0.type+P.cellsOf f1.type) :
  Reads enc P W t (st2R R0 R1) (st2Q Q0 Q1):=by
 refine⟨fun x=>⟨?_,?_⟩,by have:=h0.pos;omega,fun fuel cs x hx=>?_⟩
 ·show ((R0 x.1).cells++(R1 x.2).cells).length=P.cellsOf t
  simp only[List.length_append]
  rw[(h0.cells x.1).1,(h1.cells x.2).1,hc]
 ·intro c hq
  replace hq:c∈(R0 x.1).cells++(R1 x.2).cells:=hq
  simp only[List.mem_append] at hq
  rcases hq with hq|hq
  ·exact (h0.cells x.1).2 c hq
  ·exact (h1.cells x.2).2 c hq
 ·obtain⟨y0,y1,n,rfl,hl,t0,t1⟩:=trod_struct2 ht hx
  obtain⟨a0,q0,l0,r0⟩:=h0.rd _ _ _ t0
  obtain⟨a1,q1,l1,r1⟩:=h1.rd _ _ _ t1
  have s0:=qax r0 (Nat.le_of_eq (h0.cells a0).1)
  have s1:=qax r1 (Nat.le_of_eq (h1.cells a1).1)
  refine⟨(a0,a1),⟨_,_,rfl,q0,q1⟩,hl,fun j c hj=>?_⟩
  replace hj:((R0 a0).cells++((R1 a1).cells))[j]? = some c:=by simpa[st2R,AV.cells] using hj
  rw[List.getElem?_append] at hj
  split at hj
  ·have:=s0 _ c hj
   rw[o0] at this
   have e:0+(j)=j:=by have:=(h0.cells a0).1;have:=(h1.cells a1).1;omega
   rwa [e] at this
  ·rename_i hn0
   have:=s1 _ c hj
   rw[o1] at this
   have e:(P.cellsOf f0.type)+(j-(R0 a0).cells.length)=j:=by have:=(h0.cells a0).1;have:=(h1.cells a1).1;omega
   rwa [e] at this
def st3R {α β γ:Type} (R0:α→AV) (R1:β→AV) (R2:γ→AV) (x:α×β×γ):AV:=.agg ((R0 x.1).cells++(R1 x.2.1).cells++(R2 x.2.2).cells)
def st3Q {α β γ:Type} (Q0:α→DataW H→Prop) (Q1:β→DataW H→Prop) (Q2:γ→DataW H→Prop) (x:α×β×γ) (d:DataW H):Prop:=∃d0 d1 d2,d=.agg [d0,d1,d2]∧Q0 x.1 d0∧Q1 x.2.1 d1∧Q2 x.2.2 d2
theorem Reads.struct3 {α β γ:Type} {R0:α→AV} {Q0:α→DataW H→Prop} {R1:β→AV} {Q1:β→DataW H→Prop} {R2:γ→AV} {Q2:γ→DataW H→Prop} {f0 f1 f2:Field} (h0:Reads enc P W f0.type R0 Q0) (h1:Reads enc P W f1.type R1 Q1) (h2:Reads enc P W f2.type R2 Q2)
  (ht:P.underlying t=some (.struct #[f0,f1,f2])) (o0:f0.offset=0) (o1:f1.offset=P.cellsOf f0.type) (o2:f2.offset=P.cellsOf f0.type+P.cellsOf f1.type) (hc:P.cellsOf t=P.cellsOf f0.type+P.cellsOf f1.type+P.cellsOf f2.type) :
  Reads enc P W t (st3R R0 R1 R2) (st3Q Q0 Q1 Q2):=by
 refine⟨fun x=>⟨?_,?_⟩,by have:=h0.pos;omega,fun fuel cs x hx=>?_⟩
 ·show ((R0 x.1).cells++(R1 x.2.1).cells++(R2 x.2.2).cells).length=P.cellsOf t
  simp only[List.length_append]
  rw[(h0.cells x.1).1,(h1.cells x.2.1).1,(h2.cells x.2.2).1,hc]
 ·intro c hq
  replace hq:c∈(R0 x.1).cells++(R1 x.2.1).cells++(R2 x.2.2).cells:=hq
  simp only[List.mem_append] at hq
  rcases hq with (hq|hq)|hq
  ·exact (h0.cells x.1).2 c hq
  ·exact (h1.cells x.2.1).2 c hq
  ·exact (h2.cells x.2.2).2 c hq
 ·obtain⟨y0,y1,y2,n,rfl,hl,t0,t1,t2⟩:=trod_struct3 ht hx
  obtain⟨a0,q0,l0,r0⟩:=h0.rd _ _ _ t0
  obtain⟨a1,q1,l1,r1⟩:=h1.rd _ _ _ t1
  obtain⟨a2,q2,l2,r2⟩:=h2.rd _ _ _ t2
  have s0:=qax r0 (Nat.le_of_eq (h0.cells a0).1)
  have s1:=qax r1 (Nat.le_of_eq (h1.cells a1).1)
  have s2:=qax r2 (Nat.le_of_eq (h2.cells a2).1)
  refine⟨(a0,a1,a2),⟨_,_,_,rfl,q0,q1,q2⟩,hl,fun j c hj=>?_⟩
  replace hj:((R0 a0).cells++((R1 a1).cells++((R2 a2).cells)))[j]? = some c:=by simpa[st3R,AV.cells] using hj
  rw[List.getElem?_append] at hj
  split at hj
  ·have:=s0 _ c hj
   rw[o0] at this
   have e:0+(j)=j:=by have:=(h0.cells a0).1;have:=(h1.cells a1).1;have:=(h2.cells a2).1;omega
   rwa [e] at this
  ·rename_i hn0
   rw[List.getElem?_append] at hj
   split at hj
   ·have:=s1 _ c hj
    rw[o1] at this
    have e:(P.cellsOf f0.type)+(j-(R0 a0).cells.length)=j:=by have:=(h0.cells a0).1;have:=(h1.cells a1).1;have:=(h2.cells a2).1;omega
    rwa [e] at this
   ·rename_i hn1
    have:=s2 _ c hj
    rw[o2] at this
    have e:(P.cellsOf f0.type+P.cellsOf f1.type)+(j-(R0 a0).cells.length-(R1 a1).cells.length)=j:=by have:=(h0.cells a0).1;have:=(h1.cells a1).1;have:=(h2.cells a2).1;omega
    rwa [e] at this
def st4R {α β γ δ:Type} (R0:α→AV) (R1:β→AV) (R2:γ→AV) (R3:δ→AV) (x:α×β×γ×δ):AV:=.agg ((R0 x.1).cells++(R1 x.2.1).cells++(R2 x.2.2.1).cells++(R3 x.2.2.2).cells)
def st4Q {α β γ δ:Type} (Q0:α→DataW H→Prop) (Q1:β→DataW H→Prop) (Q2:γ→DataW H→Prop) (Q3:δ→DataW H→Prop) (x:α×β×γ×δ) (d:DataW H):Prop:=∃d0 d1 d2 d3,d=.agg [d0,d1,d2,d3]∧Q0 x.1 d0∧Q1 x.2.1 d1∧Q2 x.2.2.1 d2∧Q3 x.2.2.2 d3
end
end Go.AI
end
section
namespace Go.AI
open Go.RowKit Go.ChangeShapes Go.Deep Go.Joins
set_option linter.unusedVariables false
section
variable {H:Type} {enc:TypeId×Value→H} {P:Program} {W:World} {t e:TypeId}
theorem trod_struct6 {w:World} {base:Nat} {spare:Nat→Bool} {held:Bool} {t:TypeId} {f0 f1 f2 f3 f4 f5:Field} {fuel:Nat} {cs:List Value} {x:DataW H×List MemPlace} (ht:P.underlying t=some (.struct #[f0,f1,f2,f3,f4,f5])) (h:DataW.trod enc P w base spare held fuel t cs=some x) :
  ∃y0 y1 y2 y3 y4 y5 n,∃ps,x=(.agg [y0.1,y1.1,y2.1,y3.1,y4.1,y5.1],ps)∧cs.length=P.cellsOf t∧DataW.trod enc P w base spare held n f0.type ((cs.drop f0.offset).take (P.cellsOf f0.type))=some y0∧DataW.trod enc P w base spare held n f1.type ((cs.drop f1.offset).take (P.cellsOf f1.type))=some y1∧DataW.trod enc P w base spare held n f2.type ((cs.drop f2.offset).take (P.cellsOf f2.type))=some y2∧DataW.trod enc P w base spare held n f3.type ((cs.drop f3.offset).take (P.cellsOf f3.type))=some y3∧DataW.trod enc P w base spare held n f4.type ((cs.drop f4.offset).take (P.cellsOf f4.type))=some y4∧DataW.trod enc P w base spare held n f5.type ((cs.drop f5.offset).take (P.cellsOf f5.type))=some y5:=by
 obtain⟨xs,n,_,rfl,hl,hlen,hf⟩:=DataW.trod_struct ht h
 match xs,hlen with
 | [y0,y1,y2,y3,y4,y5],_=>exact⟨y0,y1,y2,y3,y4,y5,n,_,rfl,hl,by simpa using hf 0 f0 rfl,by simpa using hf 1 f1 rfl,by simpa using hf 2 f2 rfl,by simpa using hf 3 f3 rfl,by simpa using hf 4 f4 rfl,by simpa using hf 5 f5 rfl⟩
def st6R {α β γ δ ε ζ:Type} (R0:α→AV) (R1:β→AV) (R2:γ→AV) (R3:δ→AV) (R4:ε→AV) (R5:ζ→AV) (x:α×β×γ×δ×ε×ζ):AV:=.agg ((R0 x.1).cells++(R1 x.2.1).cells++(R2 x.2.2.1).cells++(R3 x.2.2.2.1).cells++(R4 x.2.2.2.2.1).cells++(R5 x.2.2.2.2.2).cells)
def st6Q {α β γ δ ε ζ:Type} (Q0:α→DataW H→Prop) (Q1:β→DataW H→Prop) (Q2:γ→DataW H→Prop) (Q3:δ→DataW H→Prop) (Q4:ε→DataW H→Prop) (Q5:ζ→DataW H→Prop) (x:α×β×γ×δ×ε×ζ) (d:DataW H):Prop:=∃d0 d1 d2 d3 d4 d5,d=.agg [d0,d1,d2,d3,d4,d5]∧Q0 x.1 d0∧Q1 x.2.1 d1∧Q2 x.2.2.1 d2∧Q3 x.2.2.2.1 d3∧Q4 x.2.2.2.2.1 d4∧Q5 x.2.2.2.2.2 d5
theorem Reads.struct6 {α β γ δ ε ζ:Type} {R0:α→AV} {Q0:α→DataW H→Prop} {R1:β→AV} {Q1:β→DataW H→Prop} {R2:γ→AV} {Q2:γ→DataW H→Prop} {R3:δ→AV} {Q3:δ→DataW H→Prop} {R4:ε→AV} {Q4:ε→DataW H→Prop} {R5:ζ→AV} {Q5:ζ→DataW H→Prop} {f0 f1 f2 f3 f4 f5:Field} (h0:Reads enc P W f0.type R0 Q0) (h1:Reads enc P W f1.type R1 Q1) (h2:Reads enc P W f2.type R2 Q2) (h3:Reads enc P W f3.type R3 Q3) (h4:Reads enc P W f4.type R4 Q4) (h5:Reads enc P W f5.type R5 Q5)
  (ht:P.underlying t=some (.struct #[f0,f1,f2,f3,f4,f5])) (o0:f0.offset=0) (o1:f1.offset=P.cellsOf f0.type) (o2:f2.offset=P.cellsOf f0.type+P.cellsOf f1.type) (o3:f3.offset=P.cellsOf f0.type+P.cellsOf f1.type+P.cellsOf f2.type) (o4:f4.offset=P.cellsOf f0.type+P.cellsOf f1.type+P.cellsOf f2.type+P.cellsOf f3.type) (o5:f5.offset=P.cellsOf f0.type+P.cellsOf f1.type+P.cellsOf f2.type+P.cellsOf f3.type+P.cellsOf f4.type) (hc:P.cellsOf t=P.cellsOf f0.type+P.cellsOf f1.type+P.cellsOf f2.type+P.cellsOf f3.type+P.cellsOf f4.type+P.cellsOf f5.type) :
  Reads enc P W t (st6R R0 R1 R2 R3 R4 R5) (st6Q Q0 Q1 Q2 Q3 Q4 Q5):=by
 refine⟨fun x=>⟨?_,?_⟩,by have:=h0.pos;omega,fun fuel cs x hx=>?_⟩
 ·show ((R0 x.1).cells++(R1 x.2.1).cells++(R2 x.2.2.1).cells++(R3 x.2.2.2.1).cells++(R4 x.2.2.2.2.1).cells++(R5 x.2.2.2.2.2).cells).length=P.cellsOf t
  simp only[List.length_append]
  rw[(h0.cells x.1).1,(h1.cells x.2.1).1,(h2.cells x.2.2.1).1,(h3.cells x.2.2.2.1).1,(h4.cells x.2.2.2.2.1).1,(h5.cells x.2.2.2.2.2).1,hc]
 ·intro c hq
  replace hq:c∈(R0 x.1).cells++(R1 x.2.1).cells++(R2 x.2.2.1).cells++(R3 x.2.2.2.1).cells++(R4 x.2.2.2.2.1).cells++(R5 x.2.2.2.2.2).cells:=hq
  simp only[List.mem_append] at hq
  rcases hq with ((((hq|hq)|hq)|hq)|hq)|hq
  ·exact (h0.cells x.1).2 c hq
  ·exact (h1.cells x.2.1).2 c hq
  ·exact (h2.cells x.2.2.1).2 c hq
  ·exact (h3.cells x.2.2.2.1).2 c hq
  ·exact (h4.cells x.2.2.2.2.1).2 c hq
  ·exact (h5.cells x.2.2.2.2.2).2 c hq
 ·obtain⟨y0,y1,y2,y3,y4,y5,n,ps,rfl,hl,t0,t1,t2,t3,t4,t5⟩:=trod_struct6 ht hx
  obtain⟨a0,q0,l0,r0⟩:=h0.rd _ _ _ t0
  obtain⟨a1,q1,l1,r1⟩:=h1.rd _ _ _ t1
  obtain⟨a2,q2,l2,r2⟩:=h2.rd _ _ _ t2
  obtain⟨a3,q3,l3,r3⟩:=h3.rd _ _ _ t3
  obtain⟨a4,q4,l4,r4⟩:=h4.rd _ _ _ t4
  obtain⟨a5,q5,l5,r5⟩:=h5.rd _ _ _ t5
  have s0:=qax r0 (Nat.le_of_eq (h0.cells a0).1)
  have s1:=qax r1 (Nat.le_of_eq (h1.cells a1).1)
  have s2:=qax r2 (Nat.le_of_eq (h2.cells a2).1)
  have s3:=qax r3 (Nat.le_of_eq (h3.cells a3).1)
  have s4:=qax r4 (Nat.le_of_eq (h4.cells a4).1)
  have s5:=qax r5 (Nat.le_of_eq (h5.cells a5).1)
  refine⟨(a0,a1,a2,a3,a4,a5),⟨_,_,_,_,_,_,rfl,q0,q1,q2,q3,q4,q5⟩,hl,fun j c hj=>?_⟩
  replace hj:((R0 a0).cells++((R1 a1).cells++((R2 a2).cells++((R3 a3).cells++((R4 a4).cells++((R5 a5).cells))))))[j]? = some c:=by simpa[st6R,AV.cells] using hj
  rw[List.getElem?_append] at hj
  split at hj
  ·have:=s0 _ c hj
   rw[o0] at this
   have e:(0)+(j)=j:=by have:=(h0.cells a0).1;have:=(h1.cells a1).1;have:=(h2.cells a2).1;have:=(h3.cells a3).1;have:=(h4.cells a4).1;have:=(h5.cells a5).1;omega
   rwa [e] at this
  ·rename_i hn0
   rw[List.getElem?_append] at hj
   split at hj
   ·have:=s1 _ c hj
    rw[o1] at this
    have e:(P.cellsOf f0.type)+(j-(R0 a0).cells.length)=j:=by have:=(h0.cells a0).1;have:=(h1.cells a1).1;have:=(h2.cells a2).1;have:=(h3.cells a3).1;have:=(h4.cells a4).1;have:=(h5.cells a5).1;omega
    rwa [e] at this
   ·rename_i hn1
    rw[List.getElem?_append] at hj
    split at hj
    ·have:=s2 _ c hj
     rw[o2] at this
     have e:(P.cellsOf f0.type+P.cellsOf f1.type)+(j-(R0 a0).cells.length-(R1 a1).cells.length)=j:=by have:=(h0.cells a0).1;have:=(h1.cells a1).1;have:=(h2.cells a2).1;have:=(h3.cells a3).1;have:=(h4.cells a4).1;have:=(h5.cells a5).1;omega
     rwa [e] at this
    ·rename_i hn2
     rw[List.getElem?_append] at hj
     split at hj
     ·have:=s3 _ c hj
      rw[o3] at this
      have e:(P.cellsOf f0.type+P.cellsOf f1.type+P.cellsOf f2.type)+(j-(R0 a0).cells.length-(R1 a1).cells.length-(R2 a2).cells.length)=j:=by have:=(h0.cells a0).1;have:=(h1.cells a1).1;have:=(h2.cells a2).1;have:=(h3.cells a3).1;have:=(h4.cells a4).1;have:=(h5.cells a5).1;omega
      rwa [e] at this
     ·rename_i hn3
      rw[List.getElem?_append] at hj
      split at hj
      ·have:=s4 _ c hj
       rw[o4] at this
       have e:(P.cellsOf f0.type+P.cellsOf f1.type+P.cellsOf f2.type+P.cellsOf f3.type)+(j-(R0 a0).cells.length-(R1 a1).cells.length-(R2 a2).cells.length-(R3 a3).cells.length)=j:=by have:=(h0.cells a0).1;have:=(h1.cells a1).1;have:=(h2.cells a2).1;have:=(h3.cells a3).1;have:=(h4.cells a4).1;have:=(h5.cells a5).1;omega
       rwa [e] at this
      ·rename_i hn4
       have:=s5 _ c hj
       rw[o5] at this
       have e:(P.cellsOf f0.type+P.cellsOf f1.type+P.cellsOf f2.type+P.cellsOf f3.type+P.cellsOf f4.type)+(j-(R0 a0).cells.length-(R1 a1).cells.length-(R2 a2).cells.length-(R3 a3).cells.length-(R4 a4).cells.length)=j:=by have:=(h0.cells a0).1;have:=(h1.cells a1).1;have:=(h2.cells a2).1;have:=(h3.cells a3).1;have:=(h4.cells a4).1;have:=(h5.cells a5).1;omega
       rwa [e] at this
end
end Go.AI
end
