/- Part 37 of a proof: Go functions are evaluated on abstract values; no conditions beyond those of each theorem. -/
import Derived.Test.YtjkkcelnfokplaaGreatDoorFi36
set_option linter.all false
set_option maxHeartbeats 16000000
set_option maxRecDepth 4000
section
namespace Go.Proofs.Tryz.Ai
open Go Go.AI Go.Proofs
def isBo (σ:List (List AV)) (r:AV×List (List AV)):Prop:=∃b:Bool,r=(.bool b,σ)
@[simp] theorem isBo_mk (σ:List (List AV)) (b:Bool):isBo σ (.bool b,σ):=⟨b,rfl⟩
@[simp] theorem exBo {σ σ':List (List AV)} {x:AV}:(∃a b,(x=a∧σ'=b)∧isBo σ (a,b))↔isBo σ (x,σ'):=⟨fun ⟨a,b,⟨h1,h2⟩,h⟩=>by rw[h1,h2];exact h,fun h=>⟨_,_,⟨rfl,rfl⟩,h⟩⟩
theorem min8 (m:Nat):∃a:Nat,(if 8000<m then (8000:Int) else (m:Int))=(a:Int)∧a≤8000:=by
 by_cases hq:8000<m
 ·exact⟨8000,by rw[if_pos hq];rfl,by omega⟩
 ·exact⟨m,by rw[if_neg hq],by omega⟩
theorem qvq (m:Nat):∃c:Nat,(if 16000<m then (16000:Int) else (m:Int))=(c:Int)∧c≤16000:=by
 by_cases hq:16000<m
 ·exact⟨16000,by rw[if_pos hq];rfl,by omega⟩
 ·exact⟨m,by rw[if_neg hq],by omega⟩
theorem qy1 (m g:List UInt8) (rq:List Rq) (ex:List (List UInt8×List UInt8)) (rp:List Rp) (rt:List Rt) (σ:List (List AV)):∃b,ev 13 [mfF ⟨m,g,rq,ex,rp,rt⟩] σ=some (.bool b,σ):=by
 suffices hx:∃r:AV×List (List AV),ev 13 [mfF ⟨m,g,rq,ex,rp,rt⟩] σ=some r∧isBo σ r by
  obtain⟨r,h1,b,rfl⟩:=hx
  exact⟨b,h1⟩
 rw[mfFx]
 simp only
 obtain⟨LQ,hLQ⟩:∃L,rq.map rqF=L:=⟨_,rfl⟩
 obtain⟨LM,hLM⟩:∃L,ex.map modA=L:=⟨_,rfl⟩
 obtain⟨LP,hLP⟩:∃L,rp.map rpF=L:=⟨_,rfl⟩
 obtain⟨LT,hLT⟩:∃L,rt.map rtF=L:=⟨_,rfl⟩
 have hmQ:LQ.length=rq.length:=by rw[← hLQ];simp
 have hmM:LM.length=ex.length:=by rw[← hLM];simp
 have hmP:LP.length=rp.length:=by rw[← hLP];simp
 have hmT:LT.length=rt.length:=by rw[← hLT];simp
 rw[hLQ,hLM,hLP,hLT]
 obtain⟨a,ha,ha2⟩:=min8 m.length
 obtain⟨b,hb,hb2⟩:=min8 g.length
 obtain⟨n0,hab⟩:∃z,a+b=z:=⟨_,rfl⟩
 have w0:IntKind.i64.wrap ((a:Int)+b)=(n0:Int):=by rw[qh (by omega)];omega
 have hn0:n0≤16000:=by omega
 refine qir rfl func13 rfl (by simp[ntmps13]) (by kernel_rfl) (by kernel_rfl) ?_
 by_cases k1:210<LQ.length
 ·simp (maxSteps:=mS) [ha,hb,w0,k1,results13]
 by_cases k2:210<LM.length
 ·simp (maxSteps:=mS) [ha,hb,w0,k1,k2,results13]
 by_cases k3:210<LP.length
 ·simp (maxSteps:=mS) [ha,hb,w0,k1,k2,k3,results13]
 by_cases k4:210<LT.length
 ·simp (maxSteps:=mS) [ha,hb,w0,k1,k2,k3,k4,results13]
 simp (maxSteps:=mS) [-Prod.exists,-Prod.forall,ha,hb,w0,k1,k2,k3,k4]
 refine qf (I:=fun p:Nat×Nat=>⟨[(1,.lp 1 0),(3,.int .i64 p.1),(4,.int .i64 p.2)],[(1,[.str m,.str g,.sl .sh LQ,.sl .sh LM,.sl .sh LP,.sl .sh LT])],σ⟩) (Pr:=fun p=>p.1≤16000∧p.2≤LQ.length) (μ:=fun p=>LQ.length-p.2) (a:=(n0,0)) (by simp) ⟨by simpa using hn0,by simp⟩ ?_
 rintro⟨n,i⟩ ⟨hn,hi⟩
 simp only at hn hi ⊢
 have w3:=wr1 i (by omega)
 by_cases hc:i<LQ.length
 ·obtain⟨x,hx⟩:∃k,rq[i]? = some k:=⟨_,List.getElem?_eq_getElem (by omega)⟩
  obtain⟨x1,x2,x3⟩:=x
  have hxL:LQ[i]? = some (.agg [.str x1,.str x2,.bool x3]):=by rw[← hLQ,List.getElem?_map,hx];rfl
  obtain⟨a0,ha0,hb0⟩:=min8 x1.length
  obtain⟨s0,hs0⟩:∃z,n+a0=z:=⟨_,rfl⟩
  have u0:IntKind.i64.wrap ((n:Int)+a0)=(s0:Int):=by rw[qh (by omega)];omega
  obtain⟨a1,ha1,hb1⟩:=min8 x2.length
  obtain⟨s1,hs1⟩:∃z,s0+a1=z:=⟨_,rfl⟩
  have u1:IntKind.i64.wrap ((s0:Int)+a1)=(s1:Int):=by rw[qh (by omega)];omega
  obtain⟨c,hcc,hc2⟩:=qvq s1
  simp (maxSteps:=mS) [-getElem?_pos,-Prod.exists,-Prod.forall,-qb,hc]
  refine qg [] _ (k:=?_)
  repeat (first|refine qd _ (hs:=by simp (maxSteps:=mS) [-getElem?_pos,hc,hxL,ha0,u0,ha1,u1,hcc];exact rfl) (k:=?_)|refine qe _ (k:=?_))
  refine qc ?_
  simp (maxSteps:=mS) [-Prod.exists,-Prod.forall,w3]
  exact⟨(c,i+1),⟨by simp;omega,by simp;omega⟩,by simp;omega,by simp⟩
 ·clear w3 hi
  simp (maxSteps:=mS) [-Prod.exists,-Prod.forall,hc]
  refine qf (I:=fun p:Nat×Nat=>⟨[(1,.lp 1 0),(3,.int .i64 p.1),(5,.int .i64 p.2)],[(1,[.str m,.str g,.sl .sh LQ,.sl .sh LM,.sl .sh LP,.sl .sh LT])],σ⟩) (Pr:=fun p=>p.1≤16000∧p.2≤LM.length) (μ:=fun p=>LM.length-p.2) (a:=(n,0)) (by simp) ⟨by simpa using hn,by simp⟩ ?_
  rintro⟨n,i⟩ ⟨hn,hi⟩
  simp only at hn hi ⊢
  have w3:=wr1 i (by omega)
  by_cases hc:i<LM.length
  ·obtain⟨x,hx⟩:∃k,ex[i]? = some k:=⟨_,List.getElem?_eq_getElem (by omega)⟩
   obtain⟨x1,x2⟩:=x
   have hxL:LM[i]? = some (.agg [.str x1,.str x2]):=by rw[← hLM,List.getElem?_map,hx];rfl
   obtain⟨a0,ha0,hb0⟩:=min8 x1.length
   obtain⟨s0,hs0⟩:∃z,n+a0=z:=⟨_,rfl⟩
   have u0:IntKind.i64.wrap ((n:Int)+a0)=(s0:Int):=by rw[qh (by omega)];omega
   obtain⟨a1,ha1,hb1⟩:=min8 x2.length
   obtain⟨s1,hs1⟩:∃z,s0+a1=z:=⟨_,rfl⟩
   have u1:IntKind.i64.wrap ((s0:Int)+a1)=(s1:Int):=by rw[qh (by omega)];omega
   obtain⟨c,hcc,hc2⟩:=qvq s1
   simp (maxSteps:=mS) [-getElem?_pos,-Prod.exists,-Prod.forall,-qb,hc]
   refine qg [] _ (k:=?_)
   repeat (first|refine qd _ (hs:=by simp (maxSteps:=mS) [-getElem?_pos,hc,hxL,ha0,u0,ha1,u1,hcc];exact rfl) (k:=?_)|refine qe _ (k:=?_))
   refine qc ?_
   simp (maxSteps:=mS) [-Prod.exists,-Prod.forall,w3]
   exact⟨(c,i+1),⟨by simp;omega,by simp;omega⟩,by simp;omega,by simp⟩
  ·clear w3 hi
   simp (maxSteps:=mS) [-Prod.exists,-Prod.forall,hc]
   refine qf (I:=fun p:Nat×Nat=>⟨[(1,.lp 1 0),(3,.int .i64 p.1),(6,.int .i64 p.2)],[(1,[.str m,.str g,.sl .sh LQ,.sl .sh LM,.sl .sh LP,.sl .sh LT])],σ⟩) (Pr:=fun p=>p.1≤16000∧p.2≤LP.length) (μ:=fun p=>LP.length-p.2) (a:=(n,0)) (by simp) ⟨by simpa using hn,by simp⟩ ?_
   rintro⟨n,i⟩ ⟨hn,hi⟩
   simp only at hn hi ⊢
   have w3:=wr1 i (by omega)
   by_cases hc:i<LP.length
   ·obtain⟨x,hx⟩:∃k,rp[i]? = some k:=⟨_,List.getElem?_eq_getElem (by omega)⟩
    obtain⟨⟨x1,x2⟩,x3,x4⟩:=x
    have hxL:LP[i]? = some (.agg [.str x1,.str x2,.str x3,.str x4]):=by rw[← hLP,List.getElem?_map,hx];rfl
    obtain⟨a0,ha0,hb0⟩:=min8 x1.length
    obtain⟨s0,hs0⟩:∃z,n+a0=z:=⟨_,rfl⟩
    have u0:IntKind.i64.wrap ((n:Int)+a0)=(s0:Int):=by rw[qh (by omega)];omega
    obtain⟨a1,ha1,hb1⟩:=min8 x2.length
    obtain⟨s1,hs1⟩:∃z,s0+a1=z:=⟨_,rfl⟩
    have u1:IntKind.i64.wrap ((s0:Int)+a1)=(s1:Int):=by rw[qh (by omega)];omega
    obtain⟨a2,ha2,hb2⟩:=min8 x3.length
    obtain⟨s2,hs2⟩:∃z,s1+a2=z:=⟨_,rfl⟩
    have u2:IntKind.i64.wrap ((s1:Int)+a2)=(s2:Int):=by rw[qh (by omega)];omega
    obtain⟨a3,ha3,hb3⟩:=min8 x4.length
    obtain⟨s3,hs3⟩:∃z,s2+a3=z:=⟨_,rfl⟩
    have u3:IntKind.i64.wrap ((s2:Int)+a3)=(s3:Int):=by rw[qh (by omega)];omega
    obtain⟨c,hcc,hc2⟩:=qvq s3
    simp (maxSteps:=mS) [-getElem?_pos,-Prod.exists,-Prod.forall,hc,hxL,ha0,u0,ha1,u1,ha2,u2,ha3,u3,hcc,w3]
    exact⟨(c,i+1),⟨by simp;omega,by simp;omega⟩,by simp;omega,by simp⟩
   ·clear w3 hi
    simp (maxSteps:=mS) [-Prod.exists,-Prod.forall,hc]
    refine qf (I:=fun p:Nat×Nat=>⟨[(1,.lp 1 0),(3,.int .i64 p.1),(8,.int .i64 p.2)],[(1,[.str m,.str g,.sl .sh LQ,.sl .sh LM,.sl .sh LP,.sl .sh LT])],σ⟩) (Pr:=fun p=>p.1≤16000∧p.2≤LT.length) (μ:=fun p=>LT.length-p.2) (a:=(n,0)) (by simp) ⟨by simpa using hn,by simp⟩ ?_
    rintro⟨n,i⟩ ⟨hn,hi⟩
    simp only at hn hi ⊢
    have w3:=wr1 i (by omega)
    by_cases hc:i<LT.length
    ·obtain⟨x,hx⟩:∃k,rt[i]? = some k:=⟨_,List.getElem?_eq_getElem (by omega)⟩
     obtain⟨x1,x2⟩:=x
     have hxL:LT[i]? = some (.agg [.str x1,.str x2]):=by rw[← hLT,List.getElem?_map,hx];rfl
     obtain⟨a0,ha0,hb0⟩:=min8 x1.length
     obtain⟨s0,hs0⟩:∃z,n+a0=z:=⟨_,rfl⟩
     have u0:IntKind.i64.wrap ((n:Int)+a0)=(s0:Int):=by rw[qh (by omega)];omega
     obtain⟨a1,ha1,hb1⟩:=min8 x2.length
     obtain⟨s1,hs1⟩:∃z,s0+a1=z:=⟨_,rfl⟩
     have u1:IntKind.i64.wrap ((s0:Int)+a1)=(s1:Int):=by rw[qh (by omega)];omega
     obtain⟨c,hcc,hc2⟩:=qvq s1
     simp (maxSteps:=mS) [-getElem?_pos,-Prod.exists,-Prod.forall,-qb,hc]
     refine qg [] _ (k:=?_)
     repeat (first|refine qd _ (hs:=by simp (maxSteps:=mS) [-getElem?_pos,hc,hxL,ha0,u0,ha1,u1,hcc];exact rfl) (k:=?_)|refine qe _ (k:=?_))
     refine qc ?_
     simp (maxSteps:=mS) [-Prod.exists,-Prod.forall,w3]
     exact⟨(c,i+1),⟨by simp;omega,by simp;omega⟩,by simp;omega,by simp⟩
    ·clear w3 hi
     simp (maxSteps:=mS) [hc,results13]
theorem qy2 (f:Mf) (σ:List (List AV)):∃b,ev 13 [mfF f] σ=some (.bool b,σ):=qy1 f.m f.g f.rq f.ex f.rp f.rt σ
end Go.Proofs.Tryz.Ai
end
