/- Part 25 of a proof: Go functions are evaluated on abstract values; no conditions beyond those of each theorem. -/
import Derived.Test.YtjkkcelnfokplaaGreatDoorFi23
import Derived.Test.YtjkkcelnfokplaaGreatDoorFi24
set_option linter.all false
set_option maxHeartbeats 16000000
set_option maxRecDepth 4000
section
namespace Go.Proofs.Tryz.Ai
open Go Go.AI Go.Proofs
theorem qct (p:List UInt8) (σ):ev 86 [.str p] σ=some (.int .i64 (pathB p),σ):=by
 refine qk func86 ntmps86 ?_
 by_cases c0:100<p.length
 ·have h1:pathB p=13:=by simp[pathB,c0]
  have c1:(100:Int)<p.length:=by omega
  simp (maxSteps:=mS) [c0,c1,h1,results86]
 ·have c1:¬(100:Int)<p.length:=by omega
  have hC:∀σ,ev 36 [.str p,.int .u8 47] σ=some (.sl (.ex 9 1) ((splitB 47 p).map .str),σ):=fun σ=>qku p (by omega) 47 σ
  have hh:=ql1 47 p
  have hg:=qq7 p
  have hz:=qkj p
  obtain⟨L,hL⟩:∃L,splitB 47 p=L:=⟨_,rfl⟩
  have hm:∀x∈L,x.length≤100:=fun x hx=>Nat.le_trans (qay (hL▸hx)) (by omega)
  have hn:L.length≤101:=by rw[← hL];have:=qaq 47 p;omega
  have hn0:0<L.length:=by rw[← hL];exact List.length_pos_iff.2 (qar 47 p)
  have hAll:elemsB [45,46,95,126] p=L.all (elemB [45,46,95,126]):=by unfold elemsB;rw[hL]
  rw[hL] at hC hh hg
  simp (maxSteps:=mS) [c0,c1,hC]
  refine qf (I:=fun i:Nat=>⟨[(3,.sl (.ex 9 1) (L.map .str)),(4,.int .i64 i)],[],σ⟩) (Pr:=fun i=>i≤L.length∧∀x∈L.take i,elemB [45,46,95,126] x=true) (μ:=fun i=>L.length-i) (a:=0) (by simp) (by simp) ?_
  rintro i ⟨hi,ha⟩
  by_cases hc:i<L.length
  ·obtain⟨x,hx⟩:∃x,L[i]=x:=⟨_,rfl⟩
   have hx2:L[i]? = some x:=by rw[← hx];exact List.getElem?_eq_getElem hc
   have hxl:=hm x (hx▸List.getElem_mem hc)
   have h1:∀σ,ev 153 [.str x,.int .u8 46] σ=some (.bool (elemB [45,46,95,126] x),σ):=fun σ=>qmg x [45,46,95,126] 46 (fun c=>by
    rw[Bool.eq_iff_iff];simp;constructor
    ·rintro (h|h|h|h)<;>simp[h]
    ·rintro (h|h|h|h|h)<;>simp[h]) (by omega) σ
   have w6:=wr1 i (by omega)
   cases hA:elemB [45,46,95,126] x with
   | true =>
    rw[hA] at h1
    simp (maxSteps:=mS) [-getElem?_pos,hc,hx2,h1,w6]
    exact⟨i+1,⟨by omega,take_all hc ha (by rw[hx];exact hA)⟩,by omega,by simp⟩
   | false =>
    rw[hA] at h1
    have hf:pathB p=9:=by
     have:elemsB [45,46,95,126] p=false:=by
      rw[hAll,Bool.eq_false_iff];intro h;have:=List.all_eq_true.1 h _ (hx▸List.getElem_mem hc);rw[hA] at this;cases this
     simp[pathB,c0,this]
    simp (maxSteps:=mS) [-getElem?_pos,hc,hx2,h1,hf,results86]
  ·have hi':i=L.length:=by omega
   subst hi'
   rw[List.take_length] at ha
   have e:elemsB [45,46,95,126] p=true:=by rw[hAll];exact List.all_eq_true.2 ha
   obtain⟨⟨f,g,more⟩,hk⟩:∃x,cutB 47 p=x:=⟨_,rfl⟩
   obtain⟨⟨sm,n⟩,hk2⟩:∃x,splitMB p=x:=⟨_,rfl⟩
   rw[hk] at hh hz
   rw[hk2] at hz
   simp only at hh hz
   obtain⟨hh1,hh2⟩:=hh
   have hfe:=ha f (List.mem_of_getElem? hh1)
   have hfl:=hm f (List.mem_of_getElem? hh1)
   obtain⟨q,hq⟩:∃q,lastB p=q:=⟨_,rfl⟩
   rw[hq] at hg hz
   have hqe:=ha q (List.mem_of_getElem? hg)
   have hql:=hm q (List.mem_of_getElem? hg)
   obtain⟨d,t,hdt⟩:∃d t,q=d::t:=by cases q with
    | nil=>simp[elemB,allB] at hqe
    | cons c r=>exact⟨c,r,rfl⟩
   obtain⟨a,u,hau⟩:∃a u,f=a::u:=by cases f with
    | nil=>simp[elemB,allB] at hfe
    | cons c r=>exact⟨c,r,rfl⟩
   have hH:∀σ,ev 154 [.str f] σ=some (.bool (hostB f),σ):=by rw[hau] at hfl ⊢;exact qu8 a u (by omega)
   obtain⟨k,hk3⟩:∃k,L.length=k+1:=⟨L.length-1,by omega⟩
   have hg':L[k]? = some q:=by rw[hk3] at hg;exact hg
   have w9:IntKind.i64.wrap ((k:Int)+1-1)=(k:Int):=by rw[qh (by omega)];omega
   have w10:IntKind.i64.wrap (k:Int)=(k:Int):=qh (by omega)
   have hS:=qia q (by omega)
   have hD:=qcg t (by rw[hdt] at hql;simp at hql;omega)
   have g1:q[0]? = some d:=by rw[hdt];rfl
   have g2:q.tail=t:=by rw[hdt];rfl
   have g3:1≤q.length:=by rw[hdt];simp
   have g4:List.drop 1 q=t:=by rw[hdt];rfl
   have h7:q.head? = some d:=by rw[hdt];rfl
   have kH:hostB f=false↔(46∉f∨f.any oddB=true∨f.head? = some 45):=by
    unfold hostB
    cases f.any oddB<;>by_cases x1:46∈f<;>by_cases x2:f.head? = some 45<;>simp[x1,x2]
   cases hHb:hostB f with
   | false =>
    rw[hHb] at hH
    have e1:pathB p=9:=by simp only[pathB,if_neg c0,hk];rw[if_pos (.inr (kH.1 hHb))]
    simp (maxSteps:=mS) [-getElem?_pos,hk3,hh1,hH,e1,results86]
   | true =>
    rw[hHb] at hH
    have hfin:pathB p=if more=true∧d=118∧allB isD t=true∧n=0 then 10 else 0:=by
     simp only[pathB,if_neg c0,hk,hk2,hq,h7,g2,Option.some.injEq]
     rw[if_neg]
     rintro (h|h)
     ·rw[e] at h;cases h
     ·rw[kH.2 h] at hHb;cases hHb
    by_cases e3:k=0
    ·have hm2:more=false:=by rw[Bool.eq_false_iff];intro h;have:=hh2.1 h;omega
     have e1:pathB p=0:=by rw[hfin,if_neg (by simp[hm2])]
     subst e3
     have hfq:f=q:=by rw[hh1] at hg';injection hg'
     rw[← hfq] at hS
     have w0:IntKind.i64.wrap 0=0:=by decide
     simp (maxSteps:=mS) [-getElem?_pos,hk3,hh1,hH,w0,hS,e1,results86]
    ·have hm2:more=true:=hh2.2 (by omega)
     have c3:(1:Int)<(k:Int)+1:=by omega
     have c4:1<k+1:=by omega
     have c5:0<k:=by omega
     by_cases e4:d=118
     ·subst e4
      cases e5:allB isD t with
      | true =>
       rw[e5] at hD
       cases e6:majB q with
       | none =>
        have e1:pathB p=10:=by rw[hfin,if_pos ⟨hm2,rfl,e5,(hz hm2).2 e6⟩]
        rw[e6] at hS
        simp (maxSteps:=mS) [-getElem?_pos,hk3,hh1,hH,hg',w9,w10,hS,c3,c4,c5,g1,g3,g2,hD,e1,results86]
       | some v =>
        have e1:pathB p=0:=by rw[hfin,if_neg];rintro⟨_,_,_,h⟩;rw[(hz hm2).1 h] at e6;cases e6
        rw[e6] at hS
        simp (maxSteps:=mS) [-getElem?_pos,hk3,hh1,hH,hg',w9,w10,hS,c3,c4,c5,g1,g3,g2,hD,e1,results86]
      | false =>
       have e1:pathB p=0:=by rw[hfin,if_neg (by simp[e5])]
       rw[e5] at hD
       simp (maxSteps:=mS) [-getElem?_pos,hk3,hh1,hH,hg',w9,w10,hS,c3,c4,c5,g1,g3,g2,hD,e1,results86]
     ·have e1:pathB p=0:=by rw[hfin,if_neg (by simp[e4])]
      simp (maxSteps:=mS) [-getElem?_pos,hk3,hh1,hH,hg',w9,w10,hS,c3,c4,c5,g1,e4,e1,results86]
end Go.Proofs.Tryz.Ai
end
section
namespace Go.Proofs.Tryz.Ai
open Go Go.AI Go.Proofs
theorem qer (p v:List UInt8) (hp:p.length≤2^30) (hv:v.length≤2^30) (σ):ev 77 [.agg [.str p,.str v]] σ=some (.int .i64 (checkB p v),σ):=by
 have h1:=qb4 p hp
 have h2:=qjg v hv
 have h3:=qo0 v p hv hp
 refine qk func77 ntmps77 ?_
 by_cases c1:pathB p=0
 ·rw[c1] at h1
  cases e2:readB v with
  | none =>
   rw[e2] at h2
   have hf:checkB p v=8:=by simp[checkB,c1,e2]
   simp (maxSteps:=mS) [h1,h2,hf,results77]
  | some x =>
   rw[e2] at h2
   cases e3:matchesB v p with
   | false =>
    rw[e3] at h3
    have hf:checkB p v=10:=by simp[checkB,c1,e2,e3]
    simp (maxSteps:=mS) [h1,h2,h3,hf,results77]
   | true =>
    rw[e3] at h3
    have hf:checkB p v=0:=by simp[checkB,c1,e2,e3]
    simp (maxSteps:=mS) [h1,h2,h3,hf,results77]
 ·have hf:checkB p v=pathB p:=by simp[checkB,c1]
  simp (maxSteps:=mS) [h1,c1,hf,results77]
theorem qes (p v:List UInt8) (hp:p.length≤2^30) (hv:v.length≤2^30) (σ):ev 158 [.agg [.str p,.str v]] σ=some (.int .i64 (checkB p v),σ):=by
 have h1:=qct p
 have h2:=qgx v hv
 have h3:=qmh v p hv hp
 refine qk func158 ntmps158 ?_
 by_cases c1:pathB p=0
 ·rw[c1] at h1
  cases e2:readB v with
  | none =>
   rw[e2] at h2
   have hf:checkB p v=8:=by simp[checkB,c1,e2]
   simp (maxSteps:=mS) [h1,h2,hf,results158]
  | some x =>
   rw[e2] at h2
   cases e3:matchesB v p with
   | false =>
    rw[e3] at h3
    have hf:checkB p v=10:=by simp[checkB,c1,e2,e3]
    simp (maxSteps:=mS) [h1,h2,h3,hf,results158]
   | true =>
    rw[e3] at h3
    have hf:checkB p v=0:=by simp[checkB,c1,e2,e3]
    simp (maxSteps:=mS) [h1,h2,h3,hf,results158]
 ·have hf:checkB p v=pathB p:=by simp[checkB,c1]
  simp (maxSteps:=mS) [h1,c1,hf,results158]
end Go.Proofs.Tryz.Ai
end
