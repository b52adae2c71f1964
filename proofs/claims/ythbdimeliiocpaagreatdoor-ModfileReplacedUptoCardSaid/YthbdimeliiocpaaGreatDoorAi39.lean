/- Part 39 of a proof: a Go function is evaluated on abstract values (texts LMRepl .. LMRepl); no conditions beyond those of each theorem. -/
import Derived.Test.YthbdimeliiocpaaGreatDoorAi35
set_option linter.all false
set_option linter.unusedVariables false
set_option linter.unusedSimpArgs false
set_option linter.unnecessarySimpa false
section
namespace Go.Proofs.Tryz.Ai
open Go Go.AI Go.Proofs
set_option maxHeartbeats 8000000
set_option maxRecDepth 4000
set_option linter.unusedVariables false
theorem qeu {x:Md} {p v:List UInt8} (h:isM (p,v) x=true):x.1=p:=by unfold isM at h;simp at h;exact h.1
theorem qs5 {A:List Rp} {m:Md} (h:∀y∈A,y.1.1≠m.1):replB A m=m:=by
 have h1:A.find? (fun x=>isM m x.1)=none:=by
  rw[List.find?_eq_none];exact fun y hy hm=>h y hy (qeu hm)
 have h2:A.find? (fun x=>isM (m.1,[]) x.1)=none:=by
  rw[List.find?_eq_none];exact fun y hy hm=>h y hy (qeu hm)
 unfold replB
 rw[h1];simp only;rw[h2]
theorem qs6 {A:List Rp} {m x:Md} (h:∀y∈A,y.1.1≠m.1) (h0:m.2≠[]):replB (A++[((m.1,[]),x)]) m=x:=by
 have h1:A.find? (fun x=>isM m x.1)=none:=by
  rw[List.find?_eq_none];exact fun y hy hm=>h y hy (qeu hm)
 have h2:A.find? (fun x=>isM (m.1,[]) x.1)=none:=by
  rw[List.find?_eq_none];exact fun y hy hm=>h y hy (qeu hm)
 have e1:isM m (m.1,[])=false:=by unfold isM;simp;exact fun e=>h0 e
 have e2:isM (m.1,[]) (m.1,[])=true:=by unfold isM;simp
 unfold replB
 rw[List.find?_append,h1,List.find?_append,h2]
 simp[e1,e2]
theorem qs7 {A:List Rp} {m x:Md} (h:∀y∈A,y.1.1≠m.1) (h0:m.2≠[]):replB ((A++[((m.1,[]),x)])++[(m,m)]) m=m:=by
 have h1:A.find? (fun x=>isM m x.1)=none:=by
  rw[List.find?_eq_none];exact fun y hy hm=>h y hy (qeu hm)
 have e1:isM m (m.1,[])=false:=by unfold isM;simp;exact fun e=>h0 e
 have e2:isM m m=true:=by unfold isM;simp
 unfold replB
 rw[List.find?_append,List.find?_append,h1]
 simp[e1,e2]
theorem qs8 (f:Mf) (hl:f.rp.length≤2^29) (m x:Md) (σ:List (List AV)):ev1 8 [mfF f,modA m,modA x] σ=some (.bool true,σ):=by
 have hF:=first_eq
 obtain⟨bf,hFw⟩:=qjg f σ
 have hFw:=lift hFw
 have hrp:∀(A:List Rp) (hA:A.length≤2^30) (σ:List (List AV)),ev1 24 [mfF {f with rp:=A},modA m] σ=some (modA (replB A m),σ):=fun A hA σ=>lift (qmf {f with rp:=A} hA m σ)
 obtain⟨fm,fg,rq,ex,rp,rt⟩:=f
 obtain⟨m1,m2⟩:=m
 obtain⟨x1,x2⟩:=x
 simp only at hl hrp
 simp only[mfFx,modAx] at hFw hrp ⊢
 obtain⟨LQ,hLQ⟩:∃L,rq.map rqF=L:=⟨_,rfl⟩
 obtain⟨LM,hLM⟩:∃L,ex.map modA=L:=⟨_,rfl⟩
 obtain⟨LP,hLP⟩:∃L,rp.map rpF=L:=⟨_,rfl⟩
 obtain⟨LT,hLT⟩:∃L,rt.map rtF=L:=⟨_,rfl⟩
 have hmP:LP.length=rp.length:=by rw[← hLP];simp
 have hb1:1≤most:=by unfold most;omega
 rw[hLQ,hLM,hLP,hLT] at hFw ⊢
 rw[hLQ,hLM,hLT] at hrp
 refine qf rfl Tryz.func8 rfl (by simp[Tryz.ntmps8]) (by kernel_rfl) (by kernel_rfl) ?_
 cases bf with
 | false=>simp (maxSteps:=4000000) [hF,hFw,Tryz.results8]
 | true =>
 by_cases c1:8000<m1.length
 ·simp (maxSteps:=4000000) [hF,hFw,c1,Tryz.results8]
 by_cases c2:8000<m2.length
 ·simp (maxSteps:=4000000) [hF,hFw,c1,c2,Tryz.results8]
 by_cases c3:8000<x1.length
 ·simp (maxSteps:=4000000) [hF,hFw,c1,c2,c3,Tryz.results8]
 by_cases c4:8000<x2.length
 ·simp (maxSteps:=4000000) [hF,hFw,c1,c2,c3,c4,Tryz.results8]
 by_cases c5:m2=[]
 ·have c5':(m2==[])=true:=by simpa using c5
  subst c5
  simp (maxSteps:=4000000) [hF,hFw,c1,c3,c4,Tryz.results8]
 have c5':(m2==[])=false:=by simpa using c5
 simp (maxSteps:=4000000) [-Prod.exists,-Prod.forall,hF,hFw,c1,c2,c3,c4,c5']
 refine ql (I:=fun q:Nat×List Rp=>⟨[(3,.lp 3 0),(4,.lp 4 0),(5,.lp 5 0),(9,.gp σ.length 0 (some (27,6))),(10,.int .i64 q.1)],[(3,[.str fm,.str fg,.sl .sh LQ,.sl .sh LM,.sl .sh LP,.sl .sh LT]),(4,[.str m1,.str m2]),(5,[.str x1,.str x2])],σ++[[.str fm,.str fg,.sl .sh LQ,.sl .sh LM,.sl (.ex 57 4) (q.2.map rpF),.sl .sh LT]]⟩)
  (Pr:=fun q=>q.1≤rp.length∧q.2=(rp.take q.1).filter fun y=>!(y.1.1==m1)) (μ:=fun q=>rp.length-q.1) (a:=(0,[])) (by simp) (by simp) ?_
 rintro⟨i,S⟩ ⟨hi,hS⟩
 simp only at hi hS ⊢
 have w1:IntKind.i64.wrap ((i:Int)+1)=(i:Int)+1:=qj (by omega)
 have hSl:S.length≤2^29:=by
  rw[hS];have:=List.length_filter_le (fun y:Rp=>!(y.1.1==m1)) (rp.take i);simp at this ⊢;omega
 by_cases hc:i<rp.length
 ·have hcL:i<LP.length:=by omega
  obtain⟨y,hy⟩:∃y,rp[i]? = some y:=⟨_,List.getElem?_eq_getElem hc⟩
  have hnx:(rp.take (i+1)).filter (fun y=>!(y.1.1==m1))=S++if y.1.1==m1 then [] else [y]:=by
   rw[List.take_add_one,hy,List.filter_append,← hS]
   by_cases e:(y.1.1==m1)=true<;>simp[e]
  obtain⟨⟨y1,y2⟩,y3,y4⟩:=y
  have hyL:LP[i]? = some (.agg [.str y1,.str y2,.str y3,.str y4]):=by rw[← hLP,List.getElem?_map,hy];rfl
  simp only at hnx
  by_cases e1:(y1==m1)=true
  ·rw[if_pos e1,List.append_nil] at hnx
   simp (maxSteps:=4000000) [-getElem?_pos,-Prod.exists,-Prod.forall,-beq_iff_eq,-qb,hcL]
   refine qg [] _ (k:=?_)
   repeat (first|refine qd _ (hs:=by simp (maxSteps:=4000000) [-getElem?_pos,-beq_iff_eq,hcL,hyL,e1];exact rfl) (k:=?_)|refine qe _ (k:=?_))
   refine qc ?_
   simp (maxSteps:=4000000) [-Prod.exists,-Prod.forall,w1]
   exact⟨(i+1,S),⟨by simp;omega,hnx.symm⟩,by simp;omega,by simp⟩
  ·have e1':(y1==m1)=false:=by simpa using e1
   rw[if_neg e1] at hnx
   have hb:S.length+1≤most:=by unfold most;omega
   have hall:allCells 4 (S.map rpF):=by simp
   obtain⟨SL,hSL⟩:∃L,S.map rpF=L:=⟨_,rfl⟩
   have hSLl:SL.length=S.length:=by rw[← hSL];simp
   rw[hSL] at hall ⊢
   rw[← hSLl] at hb
   simp (maxSteps:=4000000) [-getElem?_pos,-Prod.exists,-Prod.forall,-beq_iff_eq,-beq_eq_false_iff_ne,-qb,hcL]
   refine qg [] _ (k:=?_)
   repeat (first|refine qd _ (hs:=by simp (maxSteps:=4000000) [-getElem?_pos,-beq_iff_eq,-beq_eq_false_iff_ne,hcL,hyL,e1'];exact rfl) (k:=?_)|refine qe _ (k:=?_))
   refine qc ?_
   simp (maxSteps:=4000000) [-getElem?_pos,-Prod.exists,-Prod.forall,-qb]
   refine qg [] _ (k:=?_)
   repeat (first|refine qd _ (hs:=by simp (maxSteps:=4000000) [-getElem?_pos,hcL,hyL,hb,hall];exact rfl) (k:=?_)|refine qe _ (k:=?_))
   refine qc ?_
   simp (maxSteps:=4000000) [-Prod.exists,-Prod.forall,w1]
   exact⟨(i+1,S++[((y1,y2),y3,y4)]),⟨by simp;omega,hnx.symm⟩,by simp;omega,by simp[hSL,rpF]⟩
 ·have hcL:¬i<LP.length:=by omega
  rw[List.take_of_length_le (by omega)] at hS
  have hne:∀y∈S,y.1.1≠m1:=fun y hy=>by rw[hS] at hy;have:=(List.mem_filter.1 hy).2;simpa using this
  have r1:=fun σ=>hrp S (by omega) σ
  have r2:=fun σ=>hrp (S++[((m1,[]),(x1,x2))]) (by simp;omega) σ
  have r3:=fun σ=>hrp ((S++[((m1,[]),(x1,x2))])++[((m1,m2),(m1,m2))]) (by simp;omega) σ
  rw[qs5 hne] at r1
  rw[qs6 (m:=(m1,m2)) (x:=(x1,x2)) hne c5] at r2
  rw[qs7 (m:=(m1,m2)) (x:=(x1,x2)) hne c5] at r3
  have z2:(S++[((m1,([]:List UInt8)),(x1,x2))]).map rpF=S.map rpF++[.agg [.str m1,.str [],.str x1,.str x2]]:=by simp[rpF]
  have z3:((S++[((m1,([]:List UInt8)),(x1,x2))])++[((m1,m2),(m1,m2))]).map rpF=S.map rpF++[.agg [.str m1,.str [],.str x1,.str x2]]++[.agg [.str m1,.str m2,.str m1,.str m2]]:=by simp[rpF]
  rw[z2] at r2
  rw[z3] at r3
  have hall:allCells 4 (S.map rpF):=by simp
  obtain⟨SL,hSL⟩:∃L,S.map rpF=L:=⟨_,rfl⟩
  have hSLl:SL.length=S.length:=by rw[← hSL];simp
  rw[hSL] at hall r1 r2 r3 ⊢
  simp only[List.append_assoc,List.cons_append,List.nil_append] at r3
  have b1:SL.length+1≤most:=by unfold most;omega
  have b2:SL.length+1+1≤most:=by unfold most;omega
  have b0:SL.length≤most:=by unfold most;omega
  simp (maxSteps:=4000000) [-getElem?_pos,-Prod.exists,-Prod.forall,-qb,hcL]
  refine qg [] _ (k:=?_)
  repeat (first|refine qd _ (hs:=by simp (maxSteps:=4000000) [-getElem?_pos,hall,b0,b1];exact rfl) (k:=?_)|refine qe _ (k:=?_))
  refine qc ?_
  simp (maxSteps:=4000000) [-getElem?_pos,-Prod.exists,-Prod.forall,-qb]
  refine qg [] _ (k:=?_)
  repeat (first|refine qd _ (hs:=by simp (maxSteps:=4000000) [-getElem?_pos,hall,b0,b1,b2];exact rfl) (k:=?_)|refine qe _ (k:=?_))
  refine qc ?_
  simp (maxSteps:=4000000) [-getElem?_pos,-Prod.exists,-Prod.forall,-qb]
  refine qg [] _ (k:=?_)
  repeat (first|refine qd _ (hs:=by simp (maxSteps:=4000000) [-getElem?_pos,r1,r2,r3];exact rfl) (k:=?_)|refine qe _ (k:=?_))
  refine qc ?_
  simp (maxSteps:=4000000) [Tryz.results8]
theorem mreplLaw (f:MfT) (m x:Md) (hs:MfSm (mfO f)) (σ:List (List AV)):ev1 8 [mfF (mfO f),modA m,modA x] σ=some (.bool true,σ):=qs8 (mfO f) (by have:=hs.lp;omega) m x σ
end Go.Proofs.Tryz.Ai
end
