/- Part 19 of a proof: a Go function is evaluated on abstract values (texts M8 .. SoD2); no conditions beyond those of each theorem. -/
import Derived.Test.YtjkkcelnfokplaaGreatDoorAi15
import Derived.Test.YtjkkcelnfokplaaGreatDoorAi17
import Derived.Test.YtjkkcelnfokplaaGreatDoorAi18
set_option linter.all false
set_option linter.unusedVariables false
set_option linter.unusedSimpArgs false
set_option linter.unnecessarySimpa false
section
namespace Go.AI
end Go.AI
namespace Go.Proofs.Tryz.Ai
open Go Go.AI Go.Proofs
set_option maxHeartbeats 2000000
set_option linter.unusedVariables false
end Go.Proofs.Tryz.Ai
end
section
namespace Go.Proofs.Tryz.Ai
open Go Go.AI Go.Proofs
set_option maxHeartbeats 2000000
set_option linter.unusedVariables false
end Go.Proofs.Tryz.Ai
end
section
namespace Go.Proofs.Tryz.Ai
open Go Go.AI Go.Proofs
set_option maxHeartbeats 4000000
set_option linter.unusedVariables false
def rpartsA:Option Ver→AV
 | some v=>.tup [.int .i64 v.ma,.int .i64 v.mi,.int .i64 v.pa,.str v.pre,.bool true]
 | none=>.tup [.int .i64 0,.int .i64 0,.int .i64 0,.str [],.bool false]
end Go.Proofs.Tryz.Ai
end
section
namespace Go.Proofs.Tryz.Ai
open Go Go.AI Go.Proofs
set_option maxHeartbeats 2000000
set_option linter.unusedVariables false
end Go.Proofs.Tryz.Ai
end
section
namespace Go.Proofs.Tryz.Ai
open Go Go.AI Go.Proofs
set_option maxHeartbeats 2000000
set_option linter.unusedVariables false
def modA (m:List UInt8×List UInt8):AV:=.agg [.str m.1,.str m.2]
def modC (a b:List UInt8×List UInt8):Int:=orI (bytesC a.1 b.1) (cmpB a.2 b.2)
theorem TO.modC:TO modC:=TO.bytes.prod TO.cmp
def modQ (m:List UInt8×List UInt8):Prop:=m.1.length≤2^30∧m.2.length≤2^30
theorem qrz (a b:List UInt8×List UInt8) (ha:modQ a) (hb:modQ b) (σ):ev 123 [.agg [.str a.1,.str a.2],.agg [.str b.1,.str b.2]] σ=some (.int .i64 (modC a b),σ):=by
 have h1:=qcs a.1 b.1
 have h2:=qg3 a.2 b.2 ha.2 hb.2
 have h3:=qes [bytesC a.1 b.1,cmpB a.2 b.2] (by simp)
 have h4:modC a b=orL [bytesC a.1 b.1,cmpB a.2 b.2]:=by
  unfold modC
  simp only[orL,List.foldr,orI]
  split
  ·split
   ·assumption
   ·rfl
  ·rfl
 simp only[List.map_cons,List.map_nil] at h3
 refine qf rfl Tryz.func123 rfl (by simp[Tryz.ntmps123]) (by kernel_rfl) (by kernel_rfl) ?_
 simp (maxSteps:=4000000) [h1,h2,h3,h4,Tryz.results123]
theorem qzo:CmpOkM 123 modC modQ:=⟨TO.modC.tp,by decide,fun x y hx hy σ=>qrz x y hx hy σ⟩
theorem qr0 (l:List (List UInt8×List UInt8)):rowE esM l=flat (l.map modA):=qe8 (fun _=>rfl) l
theorem qv0 (l:List (List UInt8×List UInt8)):els2 true 2 2 (flat (l.map modA)) 0 l.length=some (l.map modA):=qf1 (E:=esM) (fun _=>rfl) (fun _=>rfl) (fun _=>rfl) (by decide) l
@[simp] theorem qv1 {l:List (List UInt8×List UInt8)}:allCells 2 (l.map modA)↔True:=⟨fun _=>trivial,fun _ z hz=>by
 obtain⟨w,_,rfl⟩:=List.mem_map.1 hz
 simp[modA,AV.cells]⟩
theorem qo6 {g:Nat} {c:List UInt8×List UInt8→List UInt8×List UInt8→Int} {Q:List UInt8×List UInt8→Prop} (h:CmpOkM g c Q) (l:List (List UInt8×List UInt8)) (hl:l.length≤2^30) (hQ:∀x∈l,Q x) (σ:List (List AV)) :
  ev 122 [.sl .sh (l.map modA),.fn g []] σ=some (.sl (.ex 52 2) ((isrt c l).map modA),σ):=by
 cases l with
 | nil =>
  have hS:=qg2 g
  refine qf rfl Tryz.func122 rfl (by simp[Tryz.ntmps122]) (by kernel_rfl) (by kernel_rfl) ?_
  simp (maxSteps:=4000000) [hS,isrt,Tryz.results122]
 | cons x r =>
  have hS:=qhq h σ.length (σ++[[]]) (x::r) (r.length+1) hQ (by simp) (by simpa using hl) (by simp)
  rw[qr0,qr0] at hS
  obtain⟨L,hL⟩:∃L,isrt c (x::r)=L:=⟨_,rfl⟩
  have hLl:L.length=r.length+1:=by rw[← hL,qw];simp
  have hE:=qv0 L
  rw[hL] at hS ⊢
  rw[hLl] at hE
  have hlow:lowL σ.length (L.map modA):=by simp[modA]
  have hall:allCells 2 (r.map modA):=by
   intro z hz
   obtain⟨w,_,rfl⟩:=List.mem_map.1 hz
   simp[modA,AV.cells]
  simp[modA] at hS hl
  refine qf rfl Tryz.func122 rfl (by simp[Tryz.ntmps122]) (by kernel_rfl) (by kernel_rfl) ?_
  simp (maxSteps:=4000000) [hS,hE,hlow,hall,modA,Tryz.results122]
  repeat (rw[qn];rotate_left;(· (try unfold most);omega);simp (maxSteps:=4000000) [hS,hE,hlow,hall,modA,Tryz.results122])
theorem qmo (l:List (List UInt8×List UInt8)) (hl:l.length≤2^30) (hQ:∀x∈l,modQ x) (σ:List (List AV)):ev 54 [.sl .sh (l.map modA)] σ=some (.sl (.ex 52 2) ((isrt modC l).map modA),σ):=by
 have h:=qo6 qzo l hl hQ
 refine qf rfl Tryz.func54 rfl (by simp[Tryz.ntmps54]) (by kernel_rfl) (by kernel_rfl) ?_
 simp (maxSteps:=4000000) [h,Tryz.results54]
theorem qmp (a b:List (List UInt8×List UInt8)) (ha:a.length≤2^31) (σ:List (List AV)):ev 40 [.sl .sh (a.map modA),.sl .sh (b.map modA)] σ=some (.bool (decide (a=b)),σ):=by
 refine qf rfl Tryz.func40 rfl (by simp[Tryz.ntmps40]) (by kernel_rfl) (by kernel_rfl) ?_
 by_cases hl:a.length=b.length
 ·simp (maxSteps:=4000000) [hl]
  refine ql (I:=fun i:Nat=>⟨[(0,.sl .sh (a.map modA)),(1,.sl .sh (b.map modA)),(5,.int .i64 i)],[],σ⟩) (Pr:=fun i=>i≤a.length∧a.take i=b.take i) (μ:=fun i=>a.length-i) (a:=0) (by simp) (by simp) ?_
  rintro i ⟨i1,i2⟩
  by_cases hc:i<a.length
  ·obtain⟨x,hx⟩:∃z,a[i]? = some z:=⟨_,List.getElem?_eq_getElem hc⟩
   obtain⟨y,hy⟩:∃z,b[i]? = some z:=⟨_,List.getElem?_eq_getElem (by omega)⟩
   have hcb:i<b.length:=by omega
   have w1:IntKind.i64.wrap ((i:Int)+1)=(i:Int)+1:=qh (by omega)
   have hx':(a.map modA)[i]? = some (.agg [.str x.1,.str x.2]):=by rw[List.getElem?_map,hx];rfl
   have hy':(b.map modA)[i]? = some (.agg [.str y.1,.str y.2]):=by rw[List.getElem?_map,hy];rfl
   by_cases hxy:x=y
   ·subst hxy
    simp (maxSteps:=4000000) [-getElem?_pos,-List.getElem?_map,hcb,hl,hx',hy',w1]
    exact⟨i+1,⟨by omega,by rw[List.take_add_one,List.take_add_one,hx,hy,i2]⟩,by omega,by simp⟩
   ·have hab:¬a=b:=by
     intro e
     subst e
     rw[hx] at hy
     exact hxy (by simpa using hy)
    have hxy':(x.1==y.1&&x.2==y.2)=false:=by
     rw[Bool.eq_false_iff];intro e
     simp at e
     exact hxy (Prod.ext e.1 e.2)
    simp (maxSteps:=4000000) [-getElem?_pos,-List.getElem?_map,hcb,hl,hx',hy',hxy',hab,Tryz.results40]
  ·have hab:a=b:=by
    rw[List.take_of_length_le (by omega),List.take_of_length_le (by omega)] at i2
    exact i2
   have hcb:¬i<b.length:=by omega
   subst hab
   simp (maxSteps:=4000000) [hcb,Tryz.results40]
 ·have hab:¬a=b:=fun e=>hl (by rw[e])
  simp (maxSteps:=4000000) [hl,hab,Tryz.results40]
end Go.Proofs.Tryz.Ai
end
section
namespace Go.AI
section
variable {P:Program} {h:Hint} {C:Oracle}
theorem qla {ops:List Oper} {d:Bool} {st:St} {F:St→St} {K:Ex→St→Prop} (st2:St) (e:bnd (regionA P h C ops d st) (fun st=>some (F st))=some st2) (k:K .normal st2):Post (bnd (regionA P h C ops d st) fun st=>some (Ex.normal,F st)) K:=by
 obtain⟨s,h1,h2⟩:=qa e
 injection h2 with h2
 exact⟨_,_,by rw[h1];rfl,by rw[h2];exact k⟩
theorem qe9 {ops:List Oper} {st:St} {F:St→St} {st2:St} (ds:List Nat) (st0:St) (e:allocDs ops=ds) (e0:startD ds st=st0)
  (k:PostD (runD P h C ds ops ops st0) fun s=>F s=st2):bnd (regionA P h C ops true st) (fun st=>some (F st))=some st2:=by
 obtain⟨s,h1,h2⟩:=k
 rw[regionA,if_pos rfl,e,e0,h1]
 show some (F s)=some st2
 rw[h2]
end
end Go.AI
namespace Go.Proofs.Tryz.Ai
open Go Go.AI Go.Proofs
set_option maxHeartbeats 4000000
set_option maxRecDepth 4000
set_option linter.unusedVariables false
theorem qr1 (e:Int) (σ):ev 12 [.int .i64 e] σ=some (.int .i64 e,σ):=by
 refine qf rfl Tryz.func12 rfl (by simp[Tryz.ntmps12]) (by kernel_rfl) (by kernel_rfl) ?_
 simp (maxSteps:=4000000) [Tryz.results12]
theorem qau (b:Bool) (e:Int) (σ):ev 75 [.bool b,.int .i64 e] σ=some (.int .i64 (if b then e else 0),σ):=by
 refine qf rfl Tryz.func75 rfl (by simp[Tryz.ntmps75]) (by kernel_rfl) (by kernel_rfl) ?_
 cases b<;>simp (maxSteps:=4000000) [Tryz.results75]
def fstE (l:List Int):Int:=l.foldr orI 0
theorem fstE_drop (l:List Int) (i:Nat) (h:∀x∈l.take i,x=0):fstE l=fstE (l.drop i):=by
 induction l generalizing i with
 | nil=>simp
 | cons a r ih =>
  cases i with
  | zero=>rfl
  | succ i =>
   simp only[List.take_succ_cons,List.mem_cons,forall_eq_or_imp] at h
   rw[List.drop_succ_cons,← ih i h.2]
   simp[fstE,orI,h.1]
theorem qan (l:List Int) (hl:l.length≤2^30) (σ):ev 73 [.sl .sh (l.map (.int .i64))] σ=some (.int .i64 (fstE l),σ):=by
 refine qf rfl Tryz.func73 rfl (by simp[Tryz.ntmps73]) (by kernel_rfl) (by kernel_rfl) ?_
 simp (maxSteps:=4000000) []
 refine ql (I:=fun i:Nat=>⟨[(5,.sl .sh (l.map (.int .i64))),(6,.int .i64 l.length),(7,.int .i64 i)],[],σ⟩) (Pr:=fun i=>i≤l.length∧∀x∈l.take i,x=0) (μ:=fun i=>l.length-i) (a:=0) (by simp) (by simp) ?_
 rintro i ⟨hi,hn⟩
 by_cases hc:i<l.length
 ·obtain⟨x,hx⟩:∃x,l[i]=x:=⟨_,rfl⟩
  have hx2:l[i]? = some x:=by rw[← hx];exact List.getElem?_eq_getElem hc
  have w6:IntKind.i64.wrap ((i:Int)+1)=(i:Int)+1:=qh (by omega)
  have hd:=fstE_drop l i hn
  rw[List.drop_eq_getElem_cons hc,hx] at hd
  by_cases hq:x=0
  ·simp (maxSteps:=4000000) [-getElem?_pos,hc,hx2,hq,w6]
   exact⟨i+1,⟨by omega,take_all (p:=id) hc hn (hx.trans hq)⟩,by omega,by simp⟩
  ·have h2:fstE l=x:=by rw[hd];simp[fstE,orI,hq]
   simp (maxSteps:=4000000) [-getElem?_pos,hc,hx2,hq,h2,Tryz.results73]
 ·have hi':i=l.length:=by omega
  subst hi'
  have hd:=fstE_drop l _ hn
  simp only[List.drop_length] at hd
  have h2:fstE l=0:=hd
  simp (maxSteps:=4000000) [h2,Tryz.results73]
def fixA {α:Type} (K:List α) (p:α→Bool):Int:=if K.any p then ((K.findIdx p:Nat):Int) else -1
theorem fixA_nn {α:Type} (K:List α) (p:α→Bool):decide (0≤fixA K p)=K.any p:=by
 unfold fixA
 cases K.any p<;>simp
theorem fixA_at {α:Type} {K:List α} {p:α→Bool} {i:Nat} {k:α} (hk:K[i]? = some k) (hn:(K.take i).any p=false) (hp:p k=true):fixA K p=(i:Int):=by
 have hi:i<K.length:=(List.getElem?_eq_some_iff.1 hk).1
 have hki:K[i]=k:=(List.getElem?_eq_some_iff.1 hk).2
 unfold fixA
 rw[if_pos (List.any_eq_true.2 ⟨k,List.mem_of_getElem? hk,hp⟩)]
 congr 1
 rw[List.findIdx_eq hi]
 refine⟨by rw[hki];exact hp,fun j hj=>?_⟩
 cases hq:p K[j] with
 | false=>rfl
 | true =>
  have:(K.take i).any p=true:=List.any_eq_true.2 ⟨K[j],by rw[List.mem_take_iff_getElem];exact⟨j,by omega,rfl⟩,hq⟩
  rw[hn] at this;cases this
theorem fixA_none {α:Type} {K:List α} {p:α→Bool} (h:K.any p=false):fixA K p=-1:=by unfold fixA;rw[h];simp
theorem qa4 {α:Type} {K:List α} {p:α→Bool} {i:Nat} {k:α} (hk:K[i]? = some k) (hn:(K.take i).any p=false):(K.take (i+1)).any p=p k:=by
 rw[List.take_add_one,hk,List.any_append,hn];simp
def rqF (x:Rq):AV:=.agg [.str x.1,.str x.2.1,.bool x.2.2]
theorem rqFx (x:Rq):rqF x=.agg [.str x.1,.str x.2.1,.bool x.2.2]:=rfl
def rpF (x:Rp):AV:=.agg [.str x.1.1,.str x.1.2,.str x.2.1,.str x.2.2]
theorem rpFx (x:Rp):rpF x=.agg [.str x.1.1,.str x.1.2,.str x.2.1,.str x.2.2]:=rfl
def rtF (x:Rt):AV:=.agg [.str x.1,.str x.2]
theorem rtFx (x:Rt):rtF x=.agg [.str x.1,.str x.2]:=rfl
theorem modAx (x:List UInt8×List UInt8):modA x=.agg [.str x.1,.str x.2]:=rfl
@[simp] theorem allCellsQ {l:List (Rq)}:allCells 3 (l.map rqF)↔True:=⟨fun _=>trivial,fun _ y hy=>by obtain⟨z,_,rfl⟩:=List.mem_map.1 hy;simp[rqF,AV.cells]⟩
@[simp] theorem lowQ {n:Nat} {x:Rq}:low n (rqF x)↔True:=by simp[rqF,low,lowL]
theorem qet (K:List (Rq)) (hK:K.length≤2^30) (g:FuncId) (hg:g<100000) (cap:List AV) (hcap:args cap=some cap) (p:Rq→Bool) (σ:List (List AV)) (h:∀k∈K,ev g (rqF k::cap) σ=some (.bool (p k),σ)) :
  ev 70 [.sl .sh (K.map rqF),.fn g cap] σ=some (.int .i64 (fixA K p),σ):=by
 refine qf rfl Tryz.func70 rfl (by simp[Tryz.ntmps70]) (by kernel_rfl) (by kernel_rfl) ?_
 simp (maxSteps:=4000000) []
 refine ql (I:=fun i:Nat=>⟨[(0,.sl .sh (K.map rqF)),(1,.fn g cap),(7,.int .i64 K.length),(8,.int .i64 i)],[],σ⟩) (Pr:=fun i=>i≤K.length∧(K.take i).any p=false) (μ:=fun i=>K.length-i) (a:=0) (by simp) (by simp) ?_
 rintro i ⟨hi,hn⟩
 have w1:IntKind.i64.wrap ((i:Int)+1)=(i:Int)+1:=qh (by omega)
 by_cases hc:i<K.length
 ·obtain⟨k,hk⟩:∃k,K[i]? = some k:=⟨_,List.getElem?_eq_getElem hc⟩
  have hv:=h k (List.mem_of_getElem? hk)
  have hin:=qa4 hk hn
  have hfx:=fixA_at hk hn
  obtain⟨k1,k2,k3⟩:=k
  cases hp:p (k1,k2,k3) with
  | true =>
   have hfx:=hfx hp
   rw[hp] at hv
   simp only[rqFx] at hv
   simp (maxSteps:=4000000) [-getElem?_pos,hc,hk,hg,hcap,rqFx,hv,hfx,Tryz.results70]
  | false =>
   rw[hp] at hv hin
   simp only[rqFx] at hv
   simp (maxSteps:=4000000) [-getElem?_pos,-Prod.exists,-Prod.forall,hc,hk,hg,hcap,rqFx,hv,w1]
   exact⟨i+1,⟨by omega,by simpa using hin⟩,by omega,by simp⟩
 ·rw[List.take_of_length_le (by omega)] at hn
  have hfx:fixA K p=-1:=fixA_none hn
  simp (maxSteps:=4000000) [hc,hfx,Tryz.results70]
theorem qbo (K:List (Rq)) (hK:K.length≤2^30) (g:FuncId) (hg:g<100000) (cap:List AV) (hcap:args cap=some cap) (p:Rq→Bool) (σ:List (List AV)) (h:∀k∈K,ev g (rqF k::cap) σ=some (.bool (p k),σ)) :
  ev 76 [.sl .sh (K.map rqF),.fn g cap] σ=some (.bool (K.any p),σ):=by
 have h1:=qet K hK g hg cap hcap p σ h
 have h2:=fixA_nn K p
 refine qf rfl Tryz.func76 rfl (by simp[Tryz.ntmps76]) (by kernel_rfl) (by kernel_rfl) ?_
 simp (maxSteps:=4000000) [hcap,h1,h2,Tryz.results76]
@[simp] theorem lowM {n:Nat} {x:List UInt8×List UInt8}:low n (modA x)↔True:=by simp[modA,low,lowL]
theorem qjn (K:List (List UInt8×List UInt8)) (hK:K.length≤2^30) (g:FuncId) (hg:g<100000) (cap:List AV) (hcap:args cap=some cap) (p:List UInt8×List UInt8→Bool) (σ:List (List AV)) (h:∀k∈K,ev g (modA k::cap) σ=some (.bool (p k),σ)) :
  ev 213 [.sl .sh (K.map modA),.fn g cap] σ=some (.int .i64 (fixA K p),σ):=by
 refine qf rfl Tryz.func213 rfl (by simp[Tryz.ntmps213]) (by kernel_rfl) (by kernel_rfl) ?_
 simp (maxSteps:=4000000) []
 refine ql (I:=fun i:Nat=>⟨[(0,.sl .sh (K.map modA)),(1,.fn g cap),(7,.int .i64 K.length),(8,.int .i64 i)],[],σ⟩) (Pr:=fun i=>i≤K.length∧(K.take i).any p=false) (μ:=fun i=>K.length-i) (a:=0) (by simp) (by simp) ?_
 rintro i ⟨hi,hn⟩
 have w1:IntKind.i64.wrap ((i:Int)+1)=(i:Int)+1:=qh (by omega)
 by_cases hc:i<K.length
 ·obtain⟨k,hk⟩:∃k,K[i]? = some k:=⟨_,List.getElem?_eq_getElem hc⟩
  have hv:=h k (List.mem_of_getElem? hk)
  have hin:=qa4 hk hn
  have hfx:=fixA_at hk hn
  obtain⟨k1,k2⟩:=k
  cases hp:p (k1,k2) with
  | true =>
   have hfx:=hfx hp
   rw[hp] at hv
   simp only[modAx] at hv
   simp (maxSteps:=4000000) [-getElem?_pos,hc,hk,hg,hcap,modAx,hv,hfx,Tryz.results213]
  | false =>
   rw[hp] at hv hin
   simp only[modAx] at hv
   simp (maxSteps:=4000000) [-getElem?_pos,-Prod.exists,-Prod.forall,hc,hk,hg,hcap,modAx,hv,w1]
   exact⟨i+1,⟨by omega,by simpa using hin⟩,by omega,by simp⟩
 ·rw[List.take_of_length_le (by omega)] at hn
  have hfx:fixA K p=-1:=fixA_none hn
  simp (maxSteps:=4000000) [hc,hfx,Tryz.results213]
theorem qfs (K:List (List UInt8×List UInt8)) (hK:K.length≤2^30) (g:FuncId) (hg:g<100000) (cap:List AV) (hcap:args cap=some cap) (p:List UInt8×List UInt8→Bool) (σ:List (List AV)) (h:∀k∈K,ev g (modA k::cap) σ=some (.bool (p k),σ)) :
  ev 148 [.sl .sh (K.map modA),.fn g cap] σ=some (.bool (K.any p),σ):=by
 have h1:=qjn K hK g hg cap hcap p σ h
 have h2:=fixA_nn K p
 refine qf rfl Tryz.func148 rfl (by simp[Tryz.ntmps148]) (by kernel_rfl) (by kernel_rfl) ?_
 simp (maxSteps:=4000000) [hcap,h1,h2,Tryz.results148]
@[simp] theorem allCellsP {l:List (Rp)}:allCells 4 (l.map rpF)↔True:=⟨fun _=>trivial,fun _ y hy=>by obtain⟨z,_,rfl⟩:=List.mem_map.1 hy;simp[rpF,AV.cells]⟩
@[simp] theorem lowP {n:Nat} {x:Rp}:low n (rpF x)↔True:=by simp[rpF,low,lowL]
theorem qjo (K:List (Rp)) (hK:K.length≤2^30) (g:FuncId) (hg:g<100000) (cap:List AV) (hcap:args cap=some cap) (p:Rp→Bool) (σ:List (List AV)) (h:∀k∈K,ev g (rpF k::cap) σ=some (.bool (p k),σ)) :
  ev 92 [.sl .sh (K.map rpF),.fn g cap] σ=some (.int .i64 (fixA K p),σ):=by
 refine qf rfl Tryz.func92 rfl (by simp[Tryz.ntmps92]) (by kernel_rfl) (by kernel_rfl) ?_
 simp (maxSteps:=4000000) []
 refine ql (I:=fun i:Nat=>⟨[(0,.sl .sh (K.map rpF)),(1,.fn g cap),(7,.int .i64 K.length),(8,.int .i64 i)],[],σ⟩) (Pr:=fun i=>i≤K.length∧(K.take i).any p=false) (μ:=fun i=>K.length-i) (a:=0) (by simp) (by simp) ?_
 rintro i ⟨hi,hn⟩
 have w1:IntKind.i64.wrap ((i:Int)+1)=(i:Int)+1:=qh (by omega)
 by_cases hc:i<K.length
 ·obtain⟨k,hk⟩:∃k,K[i]? = some k:=⟨_,List.getElem?_eq_getElem hc⟩
  have hv:=h k (List.mem_of_getElem? hk)
  have hin:=qa4 hk hn
  have hfx:=fixA_at hk hn
  obtain⟨⟨k1,k2⟩,k3,k4⟩:=k
  cases hp:p ((k1,k2),k3,k4) with
  | true =>
   have hfx:=hfx hp
   rw[hp] at hv
   simp only[rpFx] at hv
   simp (maxSteps:=4000000) [-getElem?_pos,hc,hk,hg,hcap,rpFx,hv,hfx,Tryz.results92]
  | false =>
   rw[hp] at hv hin
   simp only[rpFx] at hv
   simp (maxSteps:=4000000) [-getElem?_pos,-Prod.exists,-Prod.forall,hc,hk,hg,hcap,rpFx,hv,w1]
   exact⟨i+1,⟨by omega,by simpa using hin⟩,by omega,by simp⟩
 ·rw[List.take_of_length_le (by omega)] at hn
  have hfx:fixA K p=-1:=fixA_none hn
  simp (maxSteps:=4000000) [hc,hfx,Tryz.results92]
theorem qbp (K:List (Rp)) (hK:K.length≤2^30) (g:FuncId) (hg:g<100000) (cap:List AV) (hcap:args cap=some cap) (p:Rp→Bool) (σ:List (List AV)) (h:∀k∈K,ev g (rpF k::cap) σ=some (.bool (p k),σ)) :
  ev 150 [.sl .sh (K.map rpF),.fn g cap] σ=some (.bool (K.any p),σ):=by
 have h1:=qjo K hK g hg cap hcap p σ h
 have h2:=fixA_nn K p
 refine qf rfl Tryz.func150 rfl (by simp[Tryz.ntmps150]) (by kernel_rfl) (by kernel_rfl) ?_
 simp (maxSteps:=4000000) [hcap,h1,h2,Tryz.results150]
@[simp] theorem allCellsT {l:List (Rt)}:allCells 2 (l.map rtF)↔True:=⟨fun _=>trivial,fun _ y hy=>by obtain⟨z,_,rfl⟩:=List.mem_map.1 hy;simp[rtF,AV.cells]⟩
@[simp] theorem lowT {n:Nat} {x:Rt}:low n (rtF x)↔True:=by simp[rtF,low,lowL]
theorem qjp (K:List (Rt)) (hK:K.length≤2^30) (g:FuncId) (hg:g<100000) (cap:List AV) (hcap:args cap=some cap) (p:Rt→Bool) (σ:List (List AV)) (h:∀k∈K,ev g (rtF k::cap) σ=some (.bool (p k),σ)) :
  ev 214 [.sl .sh (K.map rtF),.fn g cap] σ=some (.int .i64 (fixA K p),σ):=by
 refine qf rfl Tryz.func214 rfl (by simp[Tryz.ntmps214]) (by kernel_rfl) (by kernel_rfl) ?_
 simp (maxSteps:=4000000) []
 refine ql (I:=fun i:Nat=>⟨[(0,.sl .sh (K.map rtF)),(1,.fn g cap),(7,.int .i64 K.length),(8,.int .i64 i)],[],σ⟩) (Pr:=fun i=>i≤K.length∧(K.take i).any p=false) (μ:=fun i=>K.length-i) (a:=0) (by simp) (by simp) ?_
 rintro i ⟨hi,hn⟩
 have w1:IntKind.i64.wrap ((i:Int)+1)=(i:Int)+1:=qh (by omega)
 by_cases hc:i<K.length
 ·obtain⟨k,hk⟩:∃k,K[i]? = some k:=⟨_,List.getElem?_eq_getElem hc⟩
  have hv:=h k (List.mem_of_getElem? hk)
  have hin:=qa4 hk hn
  have hfx:=fixA_at hk hn
  obtain⟨k1,k2⟩:=k
  cases hp:p (k1,k2) with
  | true =>
   have hfx:=hfx hp
   rw[hp] at hv
   simp only[rtFx] at hv
   simp (maxSteps:=4000000) [-getElem?_pos,hc,hk,hg,hcap,rtFx,hv,hfx,Tryz.results214]
  | false =>
   rw[hp] at hv hin
   simp only[rtFx] at hv
   simp (maxSteps:=4000000) [-getElem?_pos,-Prod.exists,-Prod.forall,hc,hk,hg,hcap,rtFx,hv,w1]
   exact⟨i+1,⟨by omega,by simpa using hin⟩,by omega,by simp⟩
 ·rw[List.take_of_length_le (by omega)] at hn
  have hfx:fixA K p=-1:=fixA_none hn
  simp (maxSteps:=4000000) [hc,hfx,Tryz.results214]
theorem qft (K:List (Rt)) (hK:K.length≤2^30) (g:FuncId) (hg:g<100000) (cap:List AV) (hcap:args cap=some cap) (p:Rt→Bool) (σ:List (List AV)) (h:∀k∈K,ev g (rtF k::cap) σ=some (.bool (p k),σ)) :
  ev 151 [.sl .sh (K.map rtF),.fn g cap] σ=some (.bool (K.any p),σ):=by
 have h1:=qjp K hK g hg cap hcap p σ h
 have h2:=fixA_nn K p
 refine qf rfl Tryz.func151 rfl (by simp[Tryz.ntmps151]) (by kernel_rfl) (by kernel_rfl) ?_
 simp (maxSteps:=4000000) [hcap,h1,h2,Tryz.results151]
theorem qlb (K:List (List UInt8×List UInt8)) (hK:K.length≤2^30) (m:List UInt8×List UInt8) (σ):ev 234 [.sl .sh (K.map modA),modA m] σ=some (.bool (K.any (m==·)),σ):=by
 obtain⟨m1,m2⟩:=m
 rw[modAx]
 have h1:∀σ,ev 257 [.sl .sh (K.map modA),.agg [.str m1,.str m2]] σ=some (.int .i64 (fixA K ((m1,m2)==·)),σ):=by
  intro σ
  refine qf rfl Tryz.func257 rfl (by simp[Tryz.ntmps257]) (by kernel_rfl) (by kernel_rfl) ?_
  simp (maxSteps:=4000000) []
  refine ql (I:=fun i:Nat=>⟨[(0,.sl .sh (K.map modA)),(3,.lp 3 0),(7,.int .i64 K.length),(8,.int .i64 i)],[(3,[.str m1,.str m2])],σ⟩) (Pr:=fun i=>i≤K.length∧(K.take i).any ((m1,m2)==·)=false) (μ:=fun i=>K.length-i) (a:=0) (by simp) (by simp) ?_
  rintro i ⟨hi,hn⟩
  have w1:IntKind.i64.wrap ((i:Int)+1)=(i:Int)+1:=qh (by omega)
  by_cases hc:i<K.length
  ·obtain⟨k,hk⟩:∃k,K[i]? = some k:=⟨_,List.getElem?_eq_getElem hc⟩
   have hin:=qa4 hk hn
   have hfx:=fixA_at hk hn
   obtain⟨k1,k2⟩:=k
   have hkk:(((m1,m2):List UInt8×List UInt8)==(k1,k2))=(m1==k1&&m2==k2):=rfl
   simp only[hkk] at hin hfx
   cases hp:(m1==k1&&m2==k2) with
   | true =>
    have hfx:=hfx hp
    simp (maxSteps:=4000000) [-getElem?_pos,-qb,-Bool.and_eq_true,-beq_iff_eq,hc,hk]
    refine qg [] _ (k:=?_)
    repeat (first|refine qd _ (hs:=by simp (maxSteps:=4000000) [-getElem?_pos,-Bool.and_eq_true,-beq_iff_eq,hc,hk,hp,modAx];exact rfl) (k:=?_)|refine qe _ (k:=?_))
    refine qc ?_
    simp (maxSteps:=4000000) [hfx,Tryz.results257]
   | false =>
    rw[hp] at hin
    simp (maxSteps:=4000000) [-getElem?_pos,-qb,-Bool.and_eq_false_imp,-beq_iff_eq,hc,hk]
    refine qg [] _ (k:=?_)
    repeat (first|refine qd _ (hs:=by simp (maxSteps:=4000000) [-getElem?_pos,-Bool.and_eq_false_imp,-beq_iff_eq,hc,hk,hp,modAx];exact rfl) (k:=?_)|refine qe _ (k:=?_))
    refine qc ?_
    simp (maxSteps:=4000000) [-Prod.exists,-Prod.forall,w1]
    exact⟨i+1,⟨by omega,by simpa using hin⟩,by omega,by simp⟩
  ·rw[List.take_of_length_le (by omega)] at hn
   have hfx:fixA K ((m1,m2)==·)=-1:=fixA_none hn
   simp (maxSteps:=4000000) [hc,hfx,Tryz.results257]
 have h2:=fixA_nn K ((m1,m2)==·)
 refine qf rfl Tryz.func234 rfl (by simp[Tryz.ntmps234]) (by kernel_rfl) (by kernel_rfl) ?_
 simp (maxSteps:=4000000) [h1,h2,Tryz.results234]
theorem qfn (K:List (List UInt8×List UInt8)) (hK:K.length≤2^30) (m:List UInt8×List UInt8) (σ):ev 235 [.sl .sh (K.map rtF),rtF m] σ=some (.bool (K.any (m==·)),σ):=by
 obtain⟨m1,m2⟩:=m
 rw[rtFx]
 have h1:∀σ,ev 258 [.sl .sh (K.map rtF),.agg [.str m1,.str m2]] σ=some (.int .i64 (fixA K ((m1,m2)==·)),σ):=by
  intro σ
  refine qf rfl Tryz.func258 rfl (by simp[Tryz.ntmps258]) (by kernel_rfl) (by kernel_rfl) ?_
  simp (maxSteps:=4000000) []
  refine ql (I:=fun i:Nat=>⟨[(0,.sl .sh (K.map rtF)),(3,.lp 3 0),(7,.int .i64 K.length),(8,.int .i64 i)],[(3,[.str m1,.str m2])],σ⟩) (Pr:=fun i=>i≤K.length∧(K.take i).any ((m1,m2)==·)=false) (μ:=fun i=>K.length-i) (a:=0) (by simp) (by simp) ?_
  rintro i ⟨hi,hn⟩
  have w1:IntKind.i64.wrap ((i:Int)+1)=(i:Int)+1:=qh (by omega)
  by_cases hc:i<K.length
  ·obtain⟨k,hk⟩:∃k,K[i]? = some k:=⟨_,List.getElem?_eq_getElem hc⟩
   have hin:=qa4 hk hn
   have hfx:=fixA_at hk hn
   obtain⟨k1,k2⟩:=k
   have hkk:(((m1,m2):List UInt8×List UInt8)==(k1,k2))=(m1==k1&&m2==k2):=rfl
   simp only[hkk] at hin hfx
   cases hp:(m1==k1&&m2==k2) with
   | true =>
    have hfx:=hfx hp
    simp (maxSteps:=4000000) [-getElem?_pos,-qb,-Bool.and_eq_true,-beq_iff_eq,hc,hk]
    refine qg [] _ (k:=?_)
    repeat (first|refine qd _ (hs:=by simp (maxSteps:=4000000) [-getElem?_pos,-Bool.and_eq_true,-beq_iff_eq,hc,hk,hp,rtFx];exact rfl) (k:=?_)|refine qe _ (k:=?_))
    refine qc ?_
    simp (maxSteps:=4000000) [hfx,Tryz.results258]
   | false =>
    rw[hp] at hin
    simp (maxSteps:=4000000) [-getElem?_pos,-qb,-Bool.and_eq_false_imp,-beq_iff_eq,hc,hk]
    refine qg [] _ (k:=?_)
    repeat (first|refine qd _ (hs:=by simp (maxSteps:=4000000) [-getElem?_pos,-Bool.and_eq_false_imp,-beq_iff_eq,hc,hk,hp,rtFx];exact rfl) (k:=?_)|refine qe _ (k:=?_))
    refine qc ?_
    simp (maxSteps:=4000000) [-Prod.exists,-Prod.forall,w1]
    exact⟨i+1,⟨by omega,by simpa using hin⟩,by omega,by simp⟩
  ·rw[List.take_of_length_le (by omega)] at hn
   have hfx:fixA K ((m1,m2)==·)=-1:=fixA_none hn
   simp (maxSteps:=4000000) [hc,hfx,Tryz.results258]
 have h2:=fixA_nn K ((m1,m2)==·)
 refine qf rfl Tryz.func235 rfl (by simp[Tryz.ntmps235]) (by kernel_rfl) (by kernel_rfl) ?_
 simp (maxSteps:=4000000) [h1,h2,Tryz.results235]
def isQ (p:List UInt8) (x:Rq):Bool:=x.1==p
theorem qct (p:List UInt8) (σ:List (List AV)):ev 71 [.str p] σ=some (.fn 132 [.gp σ.length 0 (some (9,1))],σ++[[.str p]]):=by
 refine qf rfl Tryz.func71 rfl (by simp[Tryz.ntmps71]) (by kernel_rfl) (by kernel_rfl) ?_
 simp (maxSteps:=4000000) [Tryz.results71]
theorem qb0 (p:List UInt8) (b:Nat) (sh:Option (TypeId×Nat)) (x:Rq) (σ:List (List AV)) (hb:σ[b]? = some [.str p]):ev 132 [rqF x,.gp b 0 sh] σ=some (.bool (isQ p x),σ):=by
 obtain⟨x1,x2,x3⟩:=x
 unfold isQ
 simp only[rqFx]
 refine qf rfl Tryz.func132 rfl (by simp[Tryz.ntmps132]) (by kernel_rfl) (by kernel_rfl) ?_
 simp (maxSteps:=4000000) [-getElem?_pos,hb,Tryz.results132]
def isM (m x:List UInt8×List UInt8):Bool:=x.1==m.1&&x.2==m.2
theorem qr2 (m:List UInt8×List UInt8) (σ:List (List AV)):ev 79 [modA m] σ=some (.fn 149 [.gp σ.length 0 (some (52,2))],σ++[[.str m.1,.str m.2]]):=by
 rw[modAx]
 refine qf rfl Tryz.func79 rfl (by simp[Tryz.ntmps79]) (by kernel_rfl) (by kernel_rfl) ?_
 simp (maxSteps:=4000000) [Tryz.results79]
theorem qr3 (m:Rt) (σ:List (List AV)):ev 85 [rtF m] σ=some (.fn 152 [.gp σ.length 0 (some (50,2))],σ++[[.str m.1,.str m.2]]):=by
 rw[rtFx]
 refine qf rfl Tryz.func85 rfl (by simp[Tryz.ntmps85]) (by kernel_rfl) (by kernel_rfl) ?_
 simp (maxSteps:=4000000) [Tryz.results85]
theorem qv2 (m:List UInt8×List UInt8) (σ:List (List AV)):ev 93 [modA m] σ=some (.fn 160 [.gp σ.length 0 (some (52,2))],σ++[[.str m.1,.str m.2]]):=by
 rw[modAx]
 refine qf rfl Tryz.func93 rfl (by simp[Tryz.ntmps93]) (by kernel_rfl) (by kernel_rfl) ?_
 simp (maxSteps:=4000000) [Tryz.results93]
theorem qfa (x:Rp) (σ:List (List AV)):ev 82 [rpF x] σ=some (.fn 160 [.gp σ.length 0 (some (52,2))],σ++[[.str x.1.1,.str x.1.2]]):=by
 have h:=qv2 x.1
 obtain⟨⟨x1,x2⟩,x3,x4⟩:=x
 simp only[modAx] at h
 rw[rpFx]
 refine qf rfl Tryz.func82 rfl (by simp[Tryz.ntmps82]) (by kernel_rfl) (by kernel_rfl) ?_
 simp (maxSteps:=4000000) [h,Tryz.results82]
theorem qo7 (m:List UInt8×List UInt8) (b:Nat) (sh:Option (TypeId×Nat)) (x:List UInt8×List UInt8) (σ:List (List AV)) (hb:σ[b]? = some [.str m.1,.str m.2]):ev 149 [modA x,.gp b 0 sh] σ=some (.bool (isM m x),σ):=by
 obtain⟨x1,x2⟩:=x
 obtain⟨m1,m2⟩:=m
 unfold isM
 simp only[modAx] at hb ⊢
 refine qf rfl Tryz.func149 rfl (by simp[Tryz.ntmps149]) (by kernel_rfl) (by kernel_rfl) ?_
 by_cases hc:x1=m1
 ·have hc':(x1==m1)=true:=by simpa using hc
  by_cases hq:x2=m2
  ·have hq':(x2==m2)=true:=by simpa using hq
   simp (maxSteps:=4000000) [-getElem?_pos,hb,hc',hq',Tryz.results149]
  ·have hq':(x2==m2)=false:=by simpa using hq
   simp (maxSteps:=4000000) [-getElem?_pos,hb,hc',hq',Tryz.results149]
 ·have hc':(x1==m1)=false:=by simpa using hc
  simp (maxSteps:=4000000) [-getElem?_pos,hb,hc',Tryz.results149]
theorem qo8 (m:List UInt8×List UInt8) (b:Nat) (sh:Option (TypeId×Nat)) (x:Rt) (σ:List (List AV)) (hb:σ[b]? = some [.str m.1,.str m.2]):ev 152 [rtF x,.gp b 0 sh] σ=some (.bool (isM m x),σ):=by
 obtain⟨x1,x2⟩:=x
 obtain⟨m1,m2⟩:=m
 unfold isM
 simp only[rtFx] at hb ⊢
 refine qf rfl Tryz.func152 rfl (by simp[Tryz.ntmps152]) (by kernel_rfl) (by kernel_rfl) ?_
 by_cases hc:x1=m1
 ·have hc':(x1==m1)=true:=by simpa using hc
  by_cases hq:x2=m2
  ·have hq':(x2==m2)=true:=by simpa using hq
   simp (maxSteps:=4000000) [-getElem?_pos,hb,hc',hq',Tryz.results152]
  ·have hq':(x2==m2)=false:=by simpa using hq
   simp (maxSteps:=4000000) [-getElem?_pos,hb,hc',hq',Tryz.results152]
 ·have hc':(x1==m1)=false:=by simpa using hc
  simp (maxSteps:=4000000) [-getElem?_pos,hb,hc',Tryz.results152]
theorem qg4 (m:List UInt8×List UInt8) (b:Nat) (sh:Option (TypeId×Nat)) (x:Rp) (σ:List (List AV)) (hb:σ[b]? = some [.str m.1,.str m.2]):ev 160 [rpF x,.gp b 0 sh] σ=some (.bool (isM m x.1),σ):=by
 obtain⟨⟨x1,x2⟩,x3,x4⟩:=x
 obtain⟨m1,m2⟩:=m
 unfold isM
 simp only[rpFx] at hb ⊢
 refine qf rfl Tryz.func160 rfl (by simp[Tryz.ntmps160]) (by kernel_rfl) (by kernel_rfl) ?_
 by_cases hc:x1=m1
 ·have hc':(x1==m1)=true:=by simpa using hc
  by_cases hq:x2=m2
  ·have hq':(x2==m2)=true:=by simpa using hq
   simp (maxSteps:=4000000) [-getElem?_pos,hb,hc',hq',Tryz.results160]
  ·have hq':(x2==m2)=false:=by simpa using hq
   simp (maxSteps:=4000000) [-getElem?_pos,hb,hc',hq',Tryz.results160]
 ·have hc':(x1==m1)=false:=by simpa using hc
  simp (maxSteps:=4000000) [-getElem?_pos,hb,hc',Tryz.results160]
end Go.Proofs.Tryz.Ai
end
section
namespace Go.Proofs.Tryz.Ai
open Go Go.AI Go.Proofs
set_option maxHeartbeats 4000000
set_option linter.unusedVariables false
end Go.Proofs.Tryz.Ai
end
section
namespace Go.Proofs.Tryz.Ai
open Go Go.AI Go.Proofs
set_option maxHeartbeats 4000000
set_option linter.unusedVariables false
def sufB:List UInt8→Nat
 | []=>0
 | c::r=>if c≠118 then 0 else match numB r with
  | none=>0
  | some n=>n
end Go.Proofs.Tryz.Ai
end
section
namespace Go.Proofs.Tryz.Ai
open Go Go.AI Go.Proofs
set_option maxHeartbeats 4000000
set_option linter.unusedVariables false
def hostB (f:List UInt8):Bool:=!(f.any oddB)&&(decide (46∈f)&&!(decide (f.head? = some 45)))
end Go.Proofs.Tryz.Ai
end
section
namespace Go.Proofs.Tryz.Ai
open Go Go.AI Go.Proofs
set_option maxHeartbeats 4000000
set_option linter.unusedVariables false
end Go.Proofs.Tryz.Ai
end
section
namespace Go.Proofs.Tryz.Ai
open Go Go.AI Go.Proofs
set_option maxHeartbeats 4000000
set_option linter.unusedVariables false
theorem qc6 (p v:List UInt8) (hp:p.length≤2^30) (hv:v.length≤2^30) (σ):ev 77 [.agg [.str p,.str v]] σ=some (.int .i64 (checkB p v),σ):=by
 have h1:=qcg p hp
 have h2:=qjq v hv
 have h3:=qo9 v p hv hp
 refine qf rfl Tryz.func77 rfl (by simp[Tryz.ntmps77]) (by kernel_rfl) (by kernel_rfl) ?_
 by_cases c1:pathB p=0
 ·rw[c1] at h1
  cases e2:readB v with
  | none =>
   rw[e2] at h2
   have hf:checkB p v=8:=by simp[checkB,c1,e2]
   simp (maxSteps:=4000000) [h1,h2,hf,Tryz.results77]
  | some x =>
   rw[e2] at h2
   cases e3:matchesB v p with
   | false =>
    rw[e3] at h3
    have hf:checkB p v=10:=by simp[checkB,c1,e2,e3]
    simp (maxSteps:=4000000) [h1,h2,h3,hf,Tryz.results77]
   | true =>
    rw[e3] at h3
    have hf:checkB p v=0:=by simp[checkB,c1,e2,e3]
    simp (maxSteps:=4000000) [h1,h2,h3,hf,Tryz.results77]
 ·have hf:checkB p v=pathB p:=by simp[checkB,c1]
  simp (maxSteps:=4000000) [h1,c1,hf,Tryz.results77]
end Go.Proofs.Tryz.Ai
end
section
namespace Go.Proofs.Tryz.Ai
open Go Go.AI Go.Proofs
set_option maxHeartbeats 8000000
set_option linter.unusedVariables false
@[reducible] def K.fX:K→Nat
| .q=>70
| .t=>214
| .p=>92
| .m=>213
@[reducible] def K.fD:K→Nat
| .q=>161
| .t=>223
| .p=>222
| .m=>220
def K.zr:(κ:K)→κ.d.α
| .q=>(([],[],false):Rq)
| .t=>(([],[]):Rt)
| .p=>((([],[]),[],[]):Rp)
| .m=>(([],[]):Mo)
end Go.Proofs.Tryz.Ai
end
section
namespace Go.Proofs.Tryz.Ai
open Go Go.AI Go.Proofs
set_option maxHeartbeats 8000000
set_option linter.unusedVariables false
def kpF {α:Type} (p:α→Bool) (D:List α) (i:Nat):List α:=(D.take i).filter fun x=>!p x
theorem qj3 {α:Type} {p:α→Bool} {D:List α} {i:Nat} {x:α} (h:D[i]? = some x):kpF p D (i+1)=kpF p D i++if p x then [] else [x]:=by
 unfold kpF
 rw[List.take_add_one,h,List.filter_append]
 cases hp:p x<;>simp[hp]
theorem q25 {α:Type} (p:α→Bool) (D:List α) (i:Nat):(kpF p D i).length≤i:=by
 unfold kpF
 have:=List.length_filter_le (fun x=>!p x) (D.take i)
 simp at this;omega
structure DelI {α:Type} (p:α→Bool) (D:List α) (i:Nat) (C:List α):Prop where
 le:i≤D.length
 len:C.length=D.length
 fst:C.take (kpF p D i).length=kpF p D i
 snd:C.drop i=D.drop i
 lt:(kpF p D i).length<i
theorem DelI.get {α:Type} {p:α→Bool} {D:List α} {i:Nat} {C:List α} {x:α} (h:DelI p D i C) (hx:D[i]? = some x):C[i]? = some x:=by
 have h1:(C.drop i)[0]? = (D.drop i)[0]?:=by rw[h.snd]
 simpa[hx] using h1
theorem DelI.keep {α:Type} {p:α→Bool} {D:List α} {i:Nat} {C:List α} {x:α} (h:DelI p D i C) (hx:D[i]? = some x) (hp:p x=false):DelI p D (i+1) (C.set (kpF p D i).length x):=by
 have hi:=(List.getElem?_eq_some_iff.1 hx).1
 have hk:=qj3 (p:=p) hx
 rw[hp] at hk
 simp only[Bool.false_eq_true,if_false] at hk
 have hl:=h.lt
 refine⟨by omega,by simp[h.len],?_,?_,by rw[hk];simp;omega⟩
 ·rw[hk,List.length_append,List.length_singleton,List.take_add_one,List.take_set_of_le (Nat.le_refl _),h.fst,List.getElem?_set_self (by rw[h.len];omega)]
  rfl
 ·rw[List.drop_set_of_lt (by omega)]
  have:C.drop (i+1)=(C.drop i).drop 1:=by rw[List.drop_drop]
  rw[this,h.snd,List.drop_drop]
theorem DelI.drop {α:Type} {p:α→Bool} {D:List α} {i:Nat} {C:List α} {x:α} (h:DelI p D i C) (hx:D[i]? = some x) (hp:p x=true):DelI p D (i+1) C:=by
 have hi:=(List.getElem?_eq_some_iff.1 hx).1
 have hk:=qj3 (p:=p) hx
 rw[hp] at hk
 simp only[if_true,List.append_nil] at hk
 have hl:=h.lt
 refine⟨by omega,h.len,by rw[hk];exact h.fst,?_,by rw[hk];omega⟩
 have:C.drop (i+1)=(C.drop i).drop 1:=by rw[List.drop_drop]
 rw[this,h.snd,List.drop_drop]
theorem DelI.start {α:Type} {p:α→Bool} {D:List α} {i:Nat} {x:α} (hx:D[i]? = some x) (hn:(D.take i).any p=false) (hp:p x=true):(kpF p D i).length=i∧DelI p D (i+1) D:=by
 have hi:=(List.getElem?_eq_some_iff.1 hx).1
 have h0:kpF p D i=D.take i:=by
  unfold kpF
  rw[List.filter_eq_self]
  intro y hy
  rw[List.any_eq_false] at hn
  simpa using hn y hy
 have hl:(kpF p D i).length=i:=by rw[h0];simp;omega
 have hk:=qj3 (p:=p) hx
 rw[hp] at hk
 simp only[if_true,List.append_nil] at hk
 exact⟨hl,⟨by omega,rfl,by rw[hk,hl,h0],rfl,by rw[hk];omega⟩⟩
def delR {κ:K} (p:κ.d.α→Bool) (D:List κ.d.α):List κ.d.α:=kpF p D D.length++List.replicate (D.length-(kpF p D D.length).length) κ.zr
theorem qwo {κ:K} (p:κ.d.α→Bool) (D:List κ.d.α):(delR p D).length=D.length:=by
 have:=q25 p D D.length
 unfold delR;simp;omega
end Go.Proofs.Tryz.Ai
end
