/- Part 19 of a proof: Go functions are evaluated on abstract values; no conditions beyond those of each theorem. -/
import Derived.Test.YtjkkcelnfokplaaGreatDoorBi15
import Derived.Test.YtjkkcelnfokplaaGreatDoorBi17
import Derived.Test.YtjkkcelnfokplaaGreatDoorBi18
set_option linter.all false
set_option maxHeartbeats 16000000
set_option maxRecDepth 4000
section
namespace Go.AI
end Go.AI
namespace Go.Proofs.Tryz.Ai
open Go Go.AI Go.Proofs
end Go.Proofs.Tryz.Ai
end
section
namespace Go.Proofs.Tryz.Ai
open Go Go.AI Go.Proofs
end Go.Proofs.Tryz.Ai
end
section
namespace Go.Proofs.Tryz.Ai
open Go Go.AI Go.Proofs
def rpartsA:Option Ver→AV
 | some v=>.tup [.int .i64 v.ma,.int .i64 v.mi,.int .i64 v.pa,.str v.pre,.bool true]
 | none=>.tup [.int .i64 0,.int .i64 0,.int .i64 0,.str [],.bool false]
end Go.Proofs.Tryz.Ai
end
section
namespace Go.Proofs.Tryz.Ai
open Go Go.AI Go.Proofs
end Go.Proofs.Tryz.Ai
end
section
namespace Go.Proofs.Tryz.Ai
open Go Go.AI Go.Proofs
def modA (m:List UInt8×List UInt8):AV:=.agg [.str m.1,.str m.2]
def modC (a b:List UInt8×List UInt8):Int:=orI (bytesC a.1 b.1) (cmpB a.2 b.2)
theorem TO.modC:TO modC:=TO.bytes.prod TO.cmp
def modQ (m:List UInt8×List UInt8):Prop:=m.1.length≤2^30∧m.2.length≤2^30
theorem qqh (a b:List UInt8×List UInt8) (ha:modQ a) (hb:modQ b) (σ):ev 123 [.agg [.str a.1,.str a.2],.agg [.str b.1,.str b.2]] σ=some (.int .i64 (modC a b),σ):=by
 have h1:=qca a.1 b.1
 have h2:=qgb a.2 b.2 ha.2 hb.2
 have h3:=qd3 [bytesC a.1 b.1,cmpB a.2 b.2] (by simp)
 have h4:modC a b=orL [bytesC a.1 b.1,cmpB a.2 b.2]:=by
  unfold modC
  simp only[orL,List.foldr,orI]
  split
  ·split
   ·assumption
   ·rfl
  ·rfl
 simp only[List.map_cons,List.map_nil] at h3
 refine qh func123 ntmps123 ?_
 simp (maxSteps:=mS) [h1,h2,h3,h4,results123]
theorem qx4:CmpOkM 123 modC modQ:=⟨TO.modC.tp,by decide,fun x y hx hy σ=>qqh x y hx hy σ⟩
theorem qqi (l:List (List UInt8×List UInt8)):rowE esM l=flat (l.map modA):=qei (fun _=>rfl) l
theorem qug (l:List (List UInt8×List UInt8)):els2 true 2 2 (flat (l.map modA)) 0 l.length=some (l.map modA):=qe8 (E:=esM) (fun _=>rfl) (fun _=>rfl) (fun _=>rfl) (by decide) l
@[simp] theorem quh {l:List (List UInt8×List UInt8)}:allCells 2 (l.map modA)↔True:=⟨fun _=>trivial,fun _ z hz=>by
 obtain⟨w,_,rfl⟩:=List.mem_map.1 hz
 simp[modA,AV.cells]⟩
theorem qnp {g:Nat} {c:List UInt8×List UInt8→List UInt8×List UInt8→Int} {Q:List UInt8×List UInt8→Prop} (h:CmpOkM g c Q) (l:List (List UInt8×List UInt8)) (hl:l.length≤2^30) (hQ:∀x∈l,Q x) (σ:List (List AV)) :
  ev 122 [.sl .sh (l.map modA),.fn g []] σ=some (.sl (.ex 52 2) ((isrt c l).map modA),σ):=by
 cases l with
 | nil =>
  have hS:=qga g
  refine qh func122 ntmps122 ?_
  simp (maxSteps:=mS) [hS,isrt,results122]
 | cons x r =>
  have hS:=qgx h σ.length (σ++[[]]) (x::r) (r.length+1) hQ (by simp) (by simpa using hl) (by simp)
  rw[qqi,qqi] at hS
  obtain⟨L,hL⟩:∃L,isrt c (x::r)=L:=⟨_,rfl⟩
  have hLl:L.length=r.length+1:=by rw[← hL,qv];simp
  have hE:=qug L
  rw[hL] at hS ⊢
  rw[hLl] at hE
  have hlow:lowL σ.length (L.map modA):=by simp[modA]
  have hall:allCells 2 (r.map modA):=by
   intro z hz
   obtain⟨w,_,rfl⟩:=List.mem_map.1 hz
   simp[modA,AV.cells]
  simp[modA] at hS hl
  refine qh func122 ntmps122 ?_
  simp (maxSteps:=mS) [hS,hE,hlow,hall,modA,results122]
  repeat (rw[qo];rotate_left;(· (try unfold most);omega);simp (maxSteps:=mS) [hS,hE,hlow,hall,modA,results122])
theorem qla (l:List (List UInt8×List UInt8)) (hl:l.length≤2^30) (hQ:∀x∈l,modQ x) (σ:List (List AV)):ev 54 [.sl .sh (l.map modA)] σ=some (.sl (.ex 52 2) ((isrt modC l).map modA),σ):=by
 have h:=qnp qx4 l hl hQ
 refine qh func54 ntmps54 ?_
 simp (maxSteps:=mS) [h,results54]
theorem qlb (a b:List (List UInt8×List UInt8)) (ha:a.length≤2^31) (σ:List (List AV)):ev 40 [.sl .sh (a.map modA),.sl .sh (b.map modA)] σ=some (.bool (decide (a=b)),σ):=by
 refine qh func40 ntmps40 ?_
 by_cases hl:a.length=b.length
 ·simp (maxSteps:=mS) [hl]
  refine qj (I:=fun i:Nat=>⟨[(0,.sl .sh (a.map modA)),(1,.sl .sh (b.map modA)),(5,.int .i64 i)],[],σ⟩) (Pr:=fun i=>i≤a.length∧a.take i=b.take i) (μ:=fun i=>a.length-i) (a:=0) (by simp) (by simp) ?_
  rintro i ⟨i1,i2⟩
  by_cases hc:i<a.length
  ·obtain⟨x,hx⟩:=getS hc
   obtain⟨y,hy⟩:∃z,b[i]? = some z:=⟨_,List.getElem?_eq_getElem (by omega)⟩
   have hcb:i<b.length:=by omega
   have w1:=wr1 i (by omega)
   have hx':(a.map modA)[i]? = some (.agg [.str x.1,.str x.2]):=by rw[List.getElem?_map,hx];rfl
   have hy':(b.map modA)[i]? = some (.agg [.str y.1,.str y.2]):=by rw[List.getElem?_map,hy];rfl
   by_cases hxy:x=y
   ·subst hxy
    simp (maxSteps:=mS) [-getElem?_pos,-List.getElem?_map,hcb,hl,hx',hy',w1]
    exact⟨i+1,⟨by omega,by rw[List.take_add_one,List.take_add_one,hx,hy,i2]⟩,by omega,by simp⟩
   ·have hab:¬a=b:=by
     intro e
     subst e
     rw[hx] at hy
     exact hxy (by simpa using hy)
    have hxy':(x.1==y.1&&x.2==y.2)=false:=by
     rw[Bool.eq_false_iff];intro e
     simp at e
     exact hxy (Prod.ext e.1 e.2)
    simp (maxSteps:=mS) [-getElem?_pos,-List.getElem?_map,hcb,hl,hx',hy',hxy',hab,results40]
  ·have hab:a=b:=by
    rw[List.take_of_length_le (by omega),List.take_of_length_le (by omega)] at i2
    exact i2
   have hcb:¬i<b.length:=by omega
   subst hab
   simp (maxSteps:=mS) [hcb,results40]
 ·have hab:¬a=b:=fun e=>hl (by rw[e])
  simp (maxSteps:=mS) [hl,hab,results40]
end Go.Proofs.Tryz.Ai
end
section
namespace Go.AI
section
variable {P:Program} {h:Hint} {C:Oracle}
theorem qj4 {ops:List Oper} {d:Bool} {st:St} {F:St→St} {K:Ex→St→Prop} (st2:St) (e:bnd (regionA P h C ops d st) (fun st=>some (F st))=some st2) (k:K .normal st2):Post (bnd (regionA P h C ops d st) fun st=>some (Ex.normal,F st)) K:=by
 obtain⟨s,h1,h2⟩:=qa e
 injection h2 with h2
 exact⟨_,_,by rw[h1];rfl,by rw[h2];exact k⟩
theorem qej {ops:List Oper} {st:St} {F:St→St} {st2:St} (ds:List Nat) (st0:St) (e:allocDs ops=ds) (e0:startD ds st=st0)
  (k:PostD (runD P h C ds ops ops st0) fun s=>F s=st2):bnd (regionA P h C ops true st) (fun st=>some (F st))=some st2:=by
 obtain⟨s,h1,h2⟩:=k
 rw[regionA,if_pos rfl,e,e0,h1]
 show some (F s)=some st2
 rw[h2]
end
end Go.AI
namespace Go.Proofs.Tryz.Ai
open Go Go.AI Go.Proofs
theorem qv7 (e:Int) (σ):ev 12 [.int .i64 e] σ=some (.int .i64 e,σ):=by
 refine qac rfl Tryz.func12 rfl (by simp[Tryz.ntmps12]) (by kernel_rfl) (by kernel_rfl) ?_
 simp (maxSteps:=4000000) [Tryz.results12]
theorem qaw (b:Bool) (e:Int) (σ):ev 75 [.bool b,.int .i64 e] σ=some (.int .i64 (if b then e else 0),σ):=by
 refine qac rfl Tryz.func75 rfl (by simp[Tryz.ntmps75]) (by kernel_rfl) (by kernel_rfl) ?_
 cases b<;>simp (maxSteps:=4000000) [Tryz.results75]
def fstE (l:List Int):Int:=l.foldr orI 0
theorem fstE_drop (l:List Int) (i:Nat) (h:∀x∈l.take i,x=0):fstE l=fstE (l.drop i):=by
 induction l generalizing i with
 | nil=>simp
 | cons a r ih =>
  cases i with
  | zero=>rfl
  | succ i =>
   simp only[List.take_succ_cons,List.mem_cons,forall_eq_or_imp] at h
   rw[List.drop_succ_cons,← ih i h.2]
   simp[fstE,orI,h.1]
theorem qav (l:List Int) (hl:l.length≤2^30) (σ):ev 73 [.sl .sh (l.map (.int .i64))] σ=some (.int .i64 (fstE l),σ):=by
 refine qac rfl Tryz.func73 rfl (by simp[Tryz.ntmps73]) (by kernel_rfl) (by kernel_rfl) ?_
 simp (maxSteps:=4000000) []
 refine qj (I:=fun i:Nat=>⟨[(5,.sl .sh (l.map (.int .i64))),(6,.int .i64 l.length),(7,.int .i64 i)],[],σ⟩) (Pr:=fun i=>i≤l.length∧∀x∈l.take i,x=0) (μ:=fun i=>l.length-i) (a:=0) (by simp) (by simp) ?_
 rintro i ⟨hi,hn⟩
 by_cases hc:i<l.length
 ·obtain⟨x,hx⟩:∃x,l[i]=x:=⟨_,rfl⟩
  have hx2:l[i]? = some x:=by rw[← hx];exact List.getElem?_eq_getElem hc
  have w6:IntKind.i64.wrap ((i:Int)+1)=(i:Int)+1:=ql (by omega)
  have hd:=fstE_drop l i hn
  rw[List.drop_eq_getElem_cons hc,hx] at hd
  by_cases hq:x=0
  ·simp (maxSteps:=4000000) [-getElem?_pos,hc,hx2,hq,w6]
   exact⟨i+1,⟨by omega,take_all (p:=id) hc hn (hx.trans hq)⟩,by omega,by simp⟩
  ·have h2:fstE l=x:=by rw[hd];simp[fstE,orI,hq]
   simp (maxSteps:=4000000) [-getElem?_pos,hc,hx2,hq,h2,Tryz.results73]
 ·have hi':i=l.length:=by omega
  subst hi'
  have hd:=fstE_drop l _ hn
  simp only[List.drop_length] at hd
  have h2:fstE l=0:=hd
  simp (maxSteps:=4000000) [h2,Tryz.results73]
def fixA {α:Type} (K:List α) (p:α→Bool):Int:=if K.any p then ((K.findIdx p:Nat):Int) else -1
theorem fixA_nn {α:Type} (K:List α) (p:α→Bool):decide (0≤fixA K p)=K.any p:=by
 unfold fixA
 cases K.any p<;>simp
theorem fixA_at {α:Type} {K:List α} {p:α→Bool} {i:Nat} {k:α} (hk:K[i]? = some k) (hn:(K.take i).any p=false) (hp:p k=true):fixA K p=(i:Int):=by
 have hi:i<K.length:=(List.getElem?_eq_some_iff.1 hk).1
 have hki:K[i]=k:=(List.getElem?_eq_some_iff.1 hk).2
 unfold fixA
 rw[if_pos (List.any_eq_true.2 ⟨k,List.mem_of_getElem? hk,hp⟩)]
 congr 1
 rw[List.findIdx_eq hi]
 refine⟨by rw[hki];exact hp,fun j hj=>?_⟩
 cases hq:p K[j] with
 | false=>rfl
 | true =>
  have:(K.take i).any p=true:=List.any_eq_true.2 ⟨K[j],by rw[List.mem_take_iff_getElem];exact⟨j,by omega,rfl⟩,hq⟩
  rw[hn] at this;cases this
theorem fixA_none {α:Type} {K:List α} {p:α→Bool} (h:K.any p=false):fixA K p=-1:=by unfold fixA;rw[h];simp
theorem qa2 {α:Type} {K:List α} {p:α→Bool} {i:Nat} {k:α} (hk:K[i]? = some k) (hn:(K.take i).any p=false):(K.take (i+1)).any p=p k:=by
 rw[List.take_add_one,hk,List.any_append,hn];simp
def rqF (x:Rq):AV:=.agg [.str x.1,.str x.2.1,.bool x.2.2]
theorem rqFx (x:Rq):rqF x=.agg [.str x.1,.str x.2.1,.bool x.2.2]:=rfl
def rpF (x:Rp):AV:=.agg [.str x.1.1,.str x.1.2,.str x.2.1,.str x.2.2]
theorem rpFx (x:Rp):rpF x=.agg [.str x.1.1,.str x.1.2,.str x.2.1,.str x.2.2]:=rfl
def rtF (x:Rt):AV:=.agg [.str x.1,.str x.2]
theorem rtFx (x:Rt):rtF x=.agg [.str x.1,.str x.2]:=rfl
theorem modAx (x:List UInt8×List UInt8):modA x=.agg [.str x.1,.str x.2]:=rfl
@[simp] theorem allCellsQ {l:List (Rq)}:allCells 3 (l.map rqF)↔True:=⟨fun _=>trivial,fun _ y hy=>by obtain⟨z,_,rfl⟩:=List.mem_map.1 hy;simp[rqF,AV.cells]⟩
@[simp] theorem lowQ {n:Nat} {x:Rq}:low n (rqF x)↔True:=by simp[rqF,low,lowL]
theorem qd4 (K:List (Rq)) (hK:K.length≤2^30) (g:FuncId) (hg:g<100000) (cap:List AV) (hcap:args cap=some cap) (p:Rq→Bool) (σ:List (List AV)) (h:∀k∈K,ev g (rqF k::cap) σ=some (.bool (p k),σ)) :
  ev 70 [.sl .sh (K.map rqF),.fn g cap] σ=some (.int .i64 (fixA K p),σ):=by
 refine qac rfl Tryz.func70 rfl (by simp[Tryz.ntmps70]) (by kernel_rfl) (by kernel_rfl) ?_
 simp (maxSteps:=4000000) []
 refine qj (I:=fun i:Nat=>⟨[(0,.sl .sh (K.map rqF)),(1,.fn g cap),(7,.int .i64 K.length),(8,.int .i64 i)],[],σ⟩) (Pr:=fun i=>i≤K.length∧(K.take i).any p=false) (μ:=fun i=>K.length-i) (a:=0) (by simp) (by simp) ?_
 rintro i ⟨hi,hn⟩
 have w1:IntKind.i64.wrap ((i:Int)+1)=(i:Int)+1:=ql (by omega)
 by_cases hc:i<K.length
 ·obtain⟨k,hk⟩:∃k,K[i]? = some k:=⟨_,List.getElem?_eq_getElem hc⟩
  have hv:=h k (List.mem_of_getElem? hk)
  have hin:=qa2 hk hn
  have hfx:=fixA_at hk hn
  obtain⟨k1,k2,k3⟩:=k
  cases hp:p (k1,k2,k3) with
  | true =>
   have hfx:=hfx hp
   rw[hp] at hv
   simp only[rqFx] at hv
   simp (maxSteps:=4000000) [-getElem?_pos,hc,hk,hg,hcap,rqFx,hv,hfx,Tryz.results70]
  | false =>
   rw[hp] at hv hin
   simp only[rqFx] at hv
   simp (maxSteps:=4000000) [-getElem?_pos,-Prod.exists,-Prod.forall,hc,hk,hg,hcap,rqFx,hv,w1]
   exact⟨i+1,⟨by omega,by simpa using hin⟩,by omega,by simp⟩
 ·rw[List.take_of_length_le (by omega)] at hn
  have hfx:fixA K p=-1:=fixA_none hn
  simp (maxSteps:=4000000) [hc,hfx,Tryz.results70]
theorem qa8 (K:List (Rq)) (hK:K.length≤2^30) (g:FuncId) (hg:g<100000) (cap:List AV) (hcap:args cap=some cap) (p:Rq→Bool) (σ:List (List AV)) (h:∀k∈K,ev g (rqF k::cap) σ=some (.bool (p k),σ)) :
  ev 76 [.sl .sh (K.map rqF),.fn g cap] σ=some (.bool (K.any p),σ):=by
 have h1:=qd4 K hK g hg cap hcap p σ h
 have h2:=fixA_nn K p
 refine qac rfl Tryz.func76 rfl (by simp[Tryz.ntmps76]) (by kernel_rfl) (by kernel_rfl) ?_
 simp (maxSteps:=4000000) [hcap,h1,h2,Tryz.results76]
@[simp] theorem lowM {n:Nat} {x:List UInt8×List UInt8}:low n (modA x)↔True:=by simp[modA,low,lowL]
theorem qio (K:List (List UInt8×List UInt8)) (hK:K.length≤2^30) (g:FuncId) (hg:g<100000) (cap:List AV) (hcap:args cap=some cap) (p:List UInt8×List UInt8→Bool) (σ:List (List AV)) (h:∀k∈K,ev g (modA k::cap) σ=some (.bool (p k),σ)) :
  ev 213 [.sl .sh (K.map modA),.fn g cap] σ=some (.int .i64 (fixA K p),σ):=by
 refine qac rfl Tryz.func213 rfl (by simp[Tryz.ntmps213]) (by kernel_rfl) (by kernel_rfl) ?_
 simp (maxSteps:=4000000) []
 refine qj (I:=fun i:Nat=>⟨[(0,.sl .sh (K.map modA)),(1,.fn g cap),(7,.int .i64 K.length),(8,.int .i64 i)],[],σ⟩) (Pr:=fun i=>i≤K.length∧(K.take i).any p=false) (μ:=fun i=>K.length-i) (a:=0) (by simp) (by simp) ?_
 rintro i ⟨hi,hn⟩
 have w1:IntKind.i64.wrap ((i:Int)+1)=(i:Int)+1:=ql (by omega)
 by_cases hc:i<K.length
 ·obtain⟨k,hk⟩:∃k,K[i]? = some k:=⟨_,List.getElem?_eq_getElem hc⟩
  have hv:=h k (List.mem_of_getElem? hk)
  have hin:=qa2 hk hn
  have hfx:=fixA_at hk hn
  obtain⟨k1,k2⟩:=k
  cases hp:p (k1,k2) with
  | true =>
   have hfx:=hfx hp
   rw[hp] at hv
   simp only[modAx] at hv
   simp (maxSteps:=4000000) [-getElem?_pos,hc,hk,hg,hcap,modAx,hv,hfx,Tryz.results213]
  | false =>
   rw[hp] at hv hin
   simp only[modAx] at hv
   simp (maxSteps:=4000000) [-getElem?_pos,-Prod.exists,-Prod.forall,hc,hk,hg,hcap,modAx,hv,w1]
   exact⟨i+1,⟨by omega,by simpa using hin⟩,by omega,by simp⟩
 ·rw[List.take_of_length_le (by omega)] at hn
  have hfx:fixA K p=-1:=fixA_none hn
  simp (maxSteps:=4000000) [hc,hfx,Tryz.results213]
theorem qey (K:List (List UInt8×List UInt8)) (hK:K.length≤2^30) (g:FuncId) (hg:g<100000) (cap:List AV) (hcap:args cap=some cap) (p:List UInt8×List UInt8→Bool) (σ:List (List AV)) (h:∀k∈K,ev g (modA k::cap) σ=some (.bool (p k),σ)) :
  ev 148 [.sl .sh (K.map modA),.fn g cap] σ=some (.bool (K.any p),σ):=by
 have h1:=qio K hK g hg cap hcap p σ h
 have h2:=fixA_nn K p
 refine qac rfl Tryz.func148 rfl (by simp[Tryz.ntmps148]) (by kernel_rfl) (by kernel_rfl) ?_
 simp (maxSteps:=4000000) [hcap,h1,h2,Tryz.results148]
@[simp] theorem allCellsP {l:List (Rp)}:allCells 4 (l.map rpF)↔True:=⟨fun _=>trivial,fun _ y hy=>by obtain⟨z,_,rfl⟩:=List.mem_map.1 hy;simp[rpF,AV.cells]⟩
@[simp] theorem lowP {n:Nat} {x:Rp}:low n (rpF x)↔True:=by simp[rpF,low,lowL]
theorem qip (K:List (Rp)) (hK:K.length≤2^30) (g:FuncId) (hg:g<100000) (cap:List AV) (hcap:args cap=some cap) (p:Rp→Bool) (σ:List (List AV)) (h:∀k∈K,ev g (rpF k::cap) σ=some (.bool (p k),σ)) :
  ev 92 [.sl .sh (K.map rpF),.fn g cap] σ=some (.int .i64 (fixA K p),σ):=by
 refine qac rfl Tryz.func92 rfl (by simp[Tryz.ntmps92]) (by kernel_rfl) (by kernel_rfl) ?_
 simp (maxSteps:=4000000) []
 refine qj (I:=fun i:Nat=>⟨[(0,.sl .sh (K.map rpF)),(1,.fn g cap),(7,.int .i64 K.length),(8,.int .i64 i)],[],σ⟩) (Pr:=fun i=>i≤K.length∧(K.take i).any p=false) (μ:=fun i=>K.length-i) (a:=0) (by simp) (by simp) ?_
 rintro i ⟨hi,hn⟩
 have w1:IntKind.i64.wrap ((i:Int)+1)=(i:Int)+1:=ql (by omega)
 by_cases hc:i<K.length
 ·obtain⟨k,hk⟩:∃k,K[i]? = some k:=⟨_,List.getElem?_eq_getElem hc⟩
  have hv:=h k (List.mem_of_getElem? hk)
  have hin:=qa2 hk hn
  have hfx:=fixA_at hk hn
  obtain⟨⟨k1,k2⟩,k3,k4⟩:=k
  cases hp:p ((k1,k2),k3,k4) with
  | true =>
   have hfx:=hfx hp
   rw[hp] at hv
   simp only[rpFx] at hv
   simp (maxSteps:=4000000) [-getElem?_pos,hc,hk,hg,hcap,rpFx,hv,hfx,Tryz.results92]
  | false =>
   rw[hp] at hv hin
   simp only[rpFx] at hv
   simp (maxSteps:=4000000) [-getElem?_pos,-Prod.exists,-Prod.forall,hc,hk,hg,hcap,rpFx,hv,w1]
   exact⟨i+1,⟨by omega,by simpa using hin⟩,by omega,by simp⟩
 ·rw[List.take_of_length_le (by omega)] at hn
  have hfx:fixA K p=-1:=fixA_none hn
  simp (maxSteps:=4000000) [hc,hfx,Tryz.results92]
theorem qez (K:List (Rp)) (hK:K.length≤2^30) (g:FuncId) (hg:g<100000) (cap:List AV) (hcap:args cap=some cap) (p:Rp→Bool) (σ:List (List AV)) (h:∀k∈K,ev g (rpF k::cap) σ=some (.bool (p k),σ)) :
  ev 150 [.sl .sh (K.map rpF),.fn g cap] σ=some (.bool (K.any p),σ):=by
 have h1:=qip K hK g hg cap hcap p σ h
 have h2:=fixA_nn K p
 refine qac rfl Tryz.func150 rfl (by simp[Tryz.ntmps150]) (by kernel_rfl) (by kernel_rfl) ?_
 simp (maxSteps:=4000000) [hcap,h1,h2,Tryz.results150]
@[simp] theorem allCellsT {l:List (Rt)}:allCells 2 (l.map rtF)↔True:=⟨fun _=>trivial,fun _ y hy=>by obtain⟨z,_,rfl⟩:=List.mem_map.1 hy;simp[rtF,AV.cells]⟩
@[simp] theorem lowT {n:Nat} {x:Rt}:low n (rtF x)↔True:=by simp[rtF,low,lowL]
theorem qiq (K:List (Rt)) (hK:K.length≤2^30) (g:FuncId) (hg:g<100000) (cap:List AV) (hcap:args cap=some cap) (p:Rt→Bool) (σ:List (List AV)) (h:∀k∈K,ev g (rtF k::cap) σ=some (.bool (p k),σ)) :
  ev 214 [.sl .sh (K.map rtF),.fn g cap] σ=some (.int .i64 (fixA K p),σ):=by
 refine qac rfl Tryz.func214 rfl (by simp[Tryz.ntmps214]) (by kernel_rfl) (by kernel_rfl) ?_
 simp (maxSteps:=4000000) []
 refine qj (I:=fun i:Nat=>⟨[(0,.sl .sh (K.map rtF)),(1,.fn g cap),(7,.int .i64 K.length),(8,.int .i64 i)],[],σ⟩) (Pr:=fun i=>i≤K.length∧(K.take i).any p=false) (μ:=fun i=>K.length-i) (a:=0) (by simp) (by simp) ?_
 rintro i ⟨hi,hn⟩
 have w1:IntKind.i64.wrap ((i:Int)+1)=(i:Int)+1:=ql (by omega)
 by_cases hc:i<K.length
 ·obtain⟨k,hk⟩:∃k,K[i]? = some k:=⟨_,List.getElem?_eq_getElem hc⟩
  have hv:=h k (List.mem_of_getElem? hk)
  have hin:=qa2 hk hn
  have hfx:=fixA_at hk hn
  obtain⟨k1,k2⟩:=k
  cases hp:p (k1,k2) with
  | true =>
   have hfx:=hfx hp
   rw[hp] at hv
   simp only[rtFx] at hv
   simp (maxSteps:=4000000) [-getElem?_pos,hc,hk,hg,hcap,rtFx,hv,hfx,Tryz.results214]
  | false =>
   rw[hp] at hv hin
   simp only[rtFx] at hv
   simp (maxSteps:=4000000) [-getElem?_pos,-Prod.exists,-Prod.forall,hc,hk,hg,hcap,rtFx,hv,w1]
   exact⟨i+1,⟨by omega,by simpa using hin⟩,by omega,by simp⟩
 ·rw[List.take_of_length_le (by omega)] at hn
  have hfx:fixA K p=-1:=fixA_none hn
  simp (maxSteps:=4000000) [hc,hfx,Tryz.results214]
theorem qe0 (K:List (Rt)) (hK:K.length≤2^30) (g:FuncId) (hg:g<100000) (cap:List AV) (hcap:args cap=some cap) (p:Rt→Bool) (σ:List (List AV)) (h:∀k∈K,ev g (rtF k::cap) σ=some (.bool (p k),σ)) :
  ev 151 [.sl .sh (K.map rtF),.fn g cap] σ=some (.bool (K.any p),σ):=by
 have h1:=qiq K hK g hg cap hcap p σ h
 have h2:=fixA_nn K p
 refine qac rfl Tryz.func151 rfl (by simp[Tryz.ntmps151]) (by kernel_rfl) (by kernel_rfl) ?_
 simp (maxSteps:=4000000) [hcap,h1,h2,Tryz.results151]
def isQ (p:List UInt8) (x:Rq):Bool:=x.1==p
theorem qcb (p:List UInt8) (σ:List (List AV)):ev 71 [.str p] σ=some (.fn 132 [.gp σ.length 0 (some (9,1))],σ++[[.str p]]):=by
 refine qac rfl Tryz.func71 rfl (by simp[Tryz.ntmps71]) (by kernel_rfl) (by kernel_rfl) ?_
 simp (maxSteps:=4000000) [Tryz.results71]
theorem qbg (p:List UInt8) (b:Nat) (sh:Option (TypeId×Nat)) (x:Rq) (σ:List (List AV)) (hb:σ[b]? = some [.str p]):ev 132 [rqF x,.gp b 0 sh] σ=some (.bool (isQ p x),σ):=by
 obtain⟨x1,x2,x3⟩:=x
 unfold isQ
 simp only[rqFx]
 refine qac rfl Tryz.func132 rfl (by simp[Tryz.ntmps132]) (by kernel_rfl) (by kernel_rfl) ?_
 simp (maxSteps:=4000000) [-getElem?_pos,hb,Tryz.results132]
def isM (m x:List UInt8×List UInt8):Bool:=x.1==m.1&&x.2==m.2
theorem qqj (m:List UInt8×List UInt8) (σ:List (List AV)):ev 79 [modA m] σ=some (.fn 149 [.gp σ.length 0 (some (52,2))],σ++[[.str m.1,.str m.2]]):=by
 rw[modAx]
 refine qac rfl Tryz.func79 rfl (by simp[Tryz.ntmps79]) (by kernel_rfl) (by kernel_rfl) ?_
 simp (maxSteps:=4000000) [Tryz.results79]
theorem qqk (m:Rt) (σ:List (List AV)):ev 85 [rtF m] σ=some (.fn 152 [.gp σ.length 0 (some (50,2))],σ++[[.str m.1,.str m.2]]):=by
 rw[rtFx]
 refine qac rfl Tryz.func85 rfl (by simp[Tryz.ntmps85]) (by kernel_rfl) (by kernel_rfl) ?_
 simp (maxSteps:=4000000) [Tryz.results85]
theorem qui (m:List UInt8×List UInt8) (σ:List (List AV)):ev 93 [modA m] σ=some (.fn 160 [.gp σ.length 0 (some (52,2))],σ++[[.str m.1,.str m.2]]):=by
 rw[modAx]
 refine qac rfl Tryz.func93 rfl (by simp[Tryz.ntmps93]) (by kernel_rfl) (by kernel_rfl) ?_
 simp (maxSteps:=4000000) [Tryz.results93]
theorem qnq (x:Rp) (σ:List (List AV)):ev 82 [rpF x] σ=some (.fn 160 [.gp σ.length 0 (some (52,2))],σ++[[.str x.1.1,.str x.1.2]]):=by
 have h:=qui x.1
 obtain⟨⟨x1,x2⟩,x3,x4⟩:=x
 simp only[modAx] at h
 rw[rpFx]
 refine qac rfl Tryz.func82 rfl (by simp[Tryz.ntmps82]) (by kernel_rfl) (by kernel_rfl) ?_
 simp (maxSteps:=4000000) [h,Tryz.results82]
theorem qnr (m:List UInt8×List UInt8) (b:Nat) (sh:Option (TypeId×Nat)) (x:List UInt8×List UInt8) (σ:List (List AV)) (hb:σ[b]? = some [.str m.1,.str m.2]):ev 149 [modA x,.gp b 0 sh] σ=some (.bool (isM m x),σ):=by
 obtain⟨x1,x2⟩:=x
 obtain⟨m1,m2⟩:=m
 unfold isM
 simp only[modAx] at hb ⊢
 refine qac rfl Tryz.func149 rfl (by simp[Tryz.ntmps149]) (by kernel_rfl) (by kernel_rfl) ?_
 by_cases hc:x1=m1
 ·have hc':(x1==m1)=true:=by simpa using hc
  by_cases hq:x2=m2
  ·have hq':(x2==m2)=true:=by simpa using hq
   simp (maxSteps:=4000000) [-getElem?_pos,hb,hc',hq',Tryz.results149]
  ·have hq':(x2==m2)=false:=by simpa using hq
   simp (maxSteps:=4000000) [-getElem?_pos,hb,hc',hq',Tryz.results149]
 ·have hc':(x1==m1)=false:=by simpa using hc
  simp (maxSteps:=4000000) [-getElem?_pos,hb,hc',Tryz.results149]
theorem qns (m:List UInt8×List UInt8) (b:Nat) (sh:Option (TypeId×Nat)) (x:Rt) (σ:List (List AV)) (hb:σ[b]? = some [.str m.1,.str m.2]):ev 152 [rtF x,.gp b 0 sh] σ=some (.bool (isM m x),σ):=by
 obtain⟨x1,x2⟩:=x
 obtain⟨m1,m2⟩:=m
 unfold isM
 simp only[rtFx] at hb ⊢
 refine qac rfl Tryz.func152 rfl (by simp[Tryz.ntmps152]) (by kernel_rfl) (by kernel_rfl) ?_
 by_cases hc:x1=m1
 ·have hc':(x1==m1)=true:=by simpa using hc
  by_cases hq:x2=m2
  ·have hq':(x2==m2)=true:=by simpa using hq
   simp (maxSteps:=4000000) [-getElem?_pos,hb,hc',hq',Tryz.results152]
  ·have hq':(x2==m2)=false:=by simpa using hq
   simp (maxSteps:=4000000) [-getElem?_pos,hb,hc',hq',Tryz.results152]
 ·have hc':(x1==m1)=false:=by simpa using hc
  simp (maxSteps:=4000000) [-getElem?_pos,hb,hc',Tryz.results152]
theorem qql (m:List UInt8×List UInt8) (b:Nat) (sh:Option (TypeId×Nat)) (x:Rp) (σ:List (List AV)) (hb:σ[b]? = some [.str m.1,.str m.2]):ev 160 [rpF x,.gp b 0 sh] σ=some (.bool (isM m x.1),σ):=by
 obtain⟨⟨x1,x2⟩,x3,x4⟩:=x
 obtain⟨m1,m2⟩:=m
 unfold isM
 simp only[rpFx] at hb ⊢
 refine qac rfl Tryz.func160 rfl (by simp[Tryz.ntmps160]) (by kernel_rfl) (by kernel_rfl) ?_
 by_cases hc:x1=m1
 ·have hc':(x1==m1)=true:=by simpa using hc
  by_cases hq:x2=m2
  ·have hq':(x2==m2)=true:=by simpa using hq
   simp (maxSteps:=4000000) [-getElem?_pos,hb,hc',hq',Tryz.results160]
  ·have hq':(x2==m2)=false:=by simpa using hq
   simp (maxSteps:=4000000) [-getElem?_pos,hb,hc',hq',Tryz.results160]
 ·have hc':(x1==m1)=false:=by simpa using hc
  simp (maxSteps:=4000000) [-getElem?_pos,hb,hc',Tryz.results160]
end Go.Proofs.Tryz.Ai
end
section
namespace Go.Proofs.Tryz.Ai
open Go Go.AI Go.Proofs
end Go.Proofs.Tryz.Ai
end
section
namespace Go.Proofs.Tryz.Ai
open Go Go.AI Go.Proofs
def sufB:List UInt8→Nat
 | []=>0
 | c::r=>if c≠118 then 0 else match numB r with
  | none=>0
  | some n=>n
end Go.Proofs.Tryz.Ai
end
section
namespace Go.Proofs.Tryz.Ai
open Go Go.AI Go.Proofs
def hostB (f:List UInt8):Bool:=!(f.any oddB)&&(decide (46∈f)&&!(decide (f.head? = some 45)))
end Go.Proofs.Tryz.Ai
end
section
namespace Go.Proofs.Tryz.Ai
open Go Go.AI Go.Proofs
end Go.Proofs.Tryz.Ai
end
section
namespace Go.Proofs.Tryz.Ai
open Go Go.AI Go.Proofs
theorem qde (p v:List UInt8) (hp:p.length≤2^30) (hv:v.length≤2^30) (σ):ev 77 [.agg [.str p,.str v]] σ=some (.int .i64 (checkB p v),σ):=by
 have h1:=qbw p hp
 have h2:=qir v hv
 have h3:=qnt v p hv hp
 refine qh func77 ntmps77 ?_
 by_cases c1:pathB p=0
 ·rw[c1] at h1
  cases e2:readB v with
  | none =>
   rw[e2] at h2
   have hf:checkB p v=8:=by simp[checkB,c1,e2]
   simp (maxSteps:=mS) [h1,h2,hf,results77]
  | some x =>
   rw[e2] at h2
   cases e3:matchesB v p with
   | false =>
    rw[e3] at h3
    have hf:checkB p v=10:=by simp[checkB,c1,e2,e3]
    simp (maxSteps:=mS) [h1,h2,h3,hf,results77]
   | true =>
    rw[e3] at h3
    have hf:checkB p v=0:=by simp[checkB,c1,e2,e3]
    simp (maxSteps:=mS) [h1,h2,h3,hf,results77]
 ·have hf:checkB p v=pathB p:=by simp[checkB,c1]
  simp (maxSteps:=mS) [h1,c1,hf,results77]
end Go.Proofs.Tryz.Ai
end
section
namespace Go.Proofs.Tryz.Ai
open Go Go.AI Go.Proofs
@[reducible] def K.fX:K→Nat
| .q=>70
| .t=>214
| .p=>92
| .m=>213
@[reducible] def K.fD:K→Nat
| .q=>161
| .t=>223
| .p=>222
| .m=>220
def K.zr:(κ:K)→κ.d.α
| .q=>(([],[],false):Rq)
| .t=>(([],[]):Rt)
| .p=>((([],[]),[],[]):Rp)
| .m=>(([],[]):Mo)
theorem qdk {κ:K}:∀{EE:κ.d.α→List AV} {ty sz:Nat} (kk:KOk κ EE ty sz) (b:Nat) (σ:List (List AV)) (D:List κ.d.α) (hN:D.length≤2^30) (hb:b<σ.length) (g:FuncId) (hg:g<100000) (cap:List AV) (hcap:args cap=some cap) (p:κ.d.α→Bool)
  (h:∀k∈D,ev g (.agg (EE k)::cap) (σ.set b (rowE EE D))=some (.bool (p k),σ.set b (rowE EE D))),
  ev κ.fX [.ms ty sz b 0 D.length,.fn g cap] (σ.set b (rowE EE D))=some (.int .i64 (fixA D p),σ.set b (rowE EE D)):=by
 cases κ
 all_goals
  dsimp only[K.d,K.fX]
  intro EE ty sz kk b σ D hN hb g hg cap hcap p h
  have eg:=K.get kk
  have eb:=K.bnd kk
  have ed:=K.dem kk
  have lo:=K.low kk
  obtain⟨hE,hty,hsz⟩:=kk
  dsimp only[K.d] at eg eb ed lo hE hty hsz
 refine qh func70 ntmps70 ?_
 rotate_left
 refine qh func214 ntmps214 ?_
 rotate_left
 refine qh func92 ntmps92 ?_
 rotate_left
 refine qh func213 ntmps213 ?_
 rotate_left
 all_goals
  simp only[esQ,esT,esP,esM] at hE
  simp only[hE] at eg h
  simp (maxSteps:=mS) [-Prod.forall,hty,hsz,ed]
  refine qj (I:=fun i:Nat=>⟨[(0,.ms ty sz b 0 D.length),(1,.fn g cap),(7,.int .i64 D.length),(8,.int .i64 i)],[],σ.set b (rowE EE D)⟩) (Pr:=fun i=>i≤D.length∧(D.take i).any p=false) (μ:=fun i=>D.length-i) (a:=0) (by simp[hty,hsz]) (by simp) ?_
  rintro i ⟨hi,hn⟩
  have w1:=wr1 i (by omega)
  by_cases hc:i<D.length
  ·obtain⟨k,hk⟩:=getS hc
   have hv:=h k (List.mem_of_getElem? hk)
   have hin:=qa2 hk hn
   have hfx:=fixA_at hk hn
   have g1:=eg _ _ _ hk
   have r1:=eb _ _ hc
   cases hp:p k with
   | true =>
    have hfx:=hfx hp
    rw[hp] at hv
    simp (maxSteps:=mS) [-getElem?_pos,hty,hsz,ed,hb,hc,g1,r1,hg,hcap,hv,hfx,results70,results214,results92,results213]
   | false =>
    rw[hp] at hv hin
    simp (maxSteps:=mS) [-getElem?_pos,-Prod.exists,-Prod.forall,hty,hsz,ed,hb,hc,g1,r1,hg,hcap,hv,w1]
    exact⟨i+1,⟨by omega,by simpa using hin⟩,by omega,by simp⟩
  ·rw[List.take_of_length_le (by omega)] at hn
   have hfx:fixA D p=-1:=fixA_none hn
   simp (maxSteps:=mS) [hty,hsz,ed,hc,hfx,results70,results214,results92,results213]
end Go.Proofs.Tryz.Ai
end
