/- Part 38 of a proof: Go functions are evaluated on abstract values; no conditions beyond those of each theorem. -/
import Derived.Test.YtjkkcelnfokplaaGreatDoorFi36
set_option linter.all false
set_option maxHeartbeats 16000000
set_option maxRecDepth 4000
section
namespace Go.Proofs.Tryz.Ai
open Go Go.AI Go.Proofs
theorem qy3 (m g:List UInt8) (rq:List Rq) (ex:List (List UInt8×List UInt8)) (rp:List Rp) (rt:List Rt) (hq:rq.length≤2^29) (he:ex.length≤2^29) (hp:rp.length≤2^29) (ht:rt.length≤2^29) (σ:List (List AV)) :
  ev 18 [mfF ⟨m,g,rq,ex,rp,rt⟩] σ=some (mfF ⟨m,g,rq,ex,rp,rt⟩,σ):=by
 rw[mfFx]
 simp only
 obtain⟨LQ,hLQ⟩:∃L,rq.map rqF=L:=⟨_,rfl⟩
 obtain⟨LM,hLM⟩:∃L,ex.map modA=L:=⟨_,rfl⟩
 obtain⟨LP,hLP⟩:∃L,rp.map rpF=L:=⟨_,rfl⟩
 obtain⟨LT,hLT⟩:∃L,rt.map rtF=L:=⟨_,rfl⟩
 have hmQ:LQ.length=rq.length:=by rw[← hLQ];simp
 have hmM:LM.length=ex.length:=by rw[← hLM];simp
 have hmP:LP.length=rp.length:=by rw[← hLP];simp
 have hmT:LT.length=rt.length:=by rw[← hLT];simp
 have haM:allCells 2 LM:=by rw[← hLM];simp
 have hbM:LM.length≤most:=by unfold most;omega
 have haQ:∀i,allCells 3 (LQ.take i):=fun i x hx=>(show allCells 3 LQ by rw[← hLQ];simp) x (List.mem_of_mem_take hx)
 have haP:∀i,allCells 4 (LP.take i):=fun i x hx=>(show allCells 4 LP by rw[← hLP];simp) x (List.mem_of_mem_take hx)
 have haT:∀i,allCells 2 (LT.take i):=fun i x hx=>(show allCells 2 LT by rw[← hLT];simp) x (List.mem_of_mem_take hx)
 have hb1:1≤most:=by unfold most;omega
 have lwQ:lowL σ.length LQ:=by rw[← hLQ];simp
 have lwM:lowL σ.length LM:=by rw[← hLM];simp
 have lwP:lowL σ.length LP:=by rw[← hLP];simp
 have lwT:lowL σ.length LT:=by rw[← hLT];simp
 rw[hLQ,hLM,hLP,hLT]
 refine qk func18 ntmps18 ?_
 simp (maxSteps:=mS) [-Prod.exists,-Prod.forall,-qb]
 refine qg [3] _ (k:=?_)
 repeat (first|refine qd _ (hs:=by simp (maxSteps:=mS) [haM,hbM];exact rfl) (k:=?_)|refine qe _ (k:=?_))
 refine qc ?_
 simp (maxSteps:=mS) [-Prod.exists,-Prod.forall]
 refine qf (I:=fun i:Nat=>⟨[(1,.lp 1 0),(2,.lp 2 0),(3,.gp σ.length 0 (some (36,6))),(4,.int .i64 i)],[(1,[.str m,.str g,.sl .sh LQ,.sl .sh LM,.sl .sh LP,.sl .sh LT]),(2,[.str [],.str [],.sl .nil [],.sl .nil [],.sl .nil [],.sl .nil []])],σ++[[.str m,.str g,slN 94 3 (LQ.take i),.sl .sh LM,.sl .nil [],.sl .nil []]]⟩) (Pr:=fun i=>i≤LQ.length) (μ:=fun i=>LQ.length-i) (a:=0) (by simp[slN]) (by simp) ?_
 rintro i hi
 try simp only at hi ⊢
 have w1:=wr1 i (by omega)
 by_cases hc:i<LQ.length
 ·obtain⟨⟨x1,x2,x3⟩,hx⟩:∃y,rq[i]? = some y:=⟨_,List.getElem?_eq_getElem (by omega)⟩
  have hxL:LQ[i]? = some (.agg [.str x1,.str x2,.bool x3]):=by rw[← hLQ,List.getElem?_map,hx];rfl
  have hnx:LQ.take (i+1)=LQ.take i++[.agg [.str x1,.str x2,.bool x3]]:=by rw[List.take_add_one,hxL];rfl
  have hfin:slN 94 3 (LQ.take (i+1))=.sl (.ex 94 3) (LQ.take i++[.agg [.str x1,.str x2,.bool x3]]):=by rw[hnx];exact qfy _ _ _ _
  have hall:=haQ i
  have hb:(LQ.take i).length+1≤most:=by rw[List.length_take];unfold most;omega
  rcases qbz 94 3 (LQ.take i) with ⟨h0,hq⟩|hq
  ·rw[hq]
   rw[h0] at hfin
   simp (maxSteps:=mS) [-getElem?_pos,-Prod.exists,-Prod.forall,-qb,hc]
   refine qg [] _ (k:=?_)
   repeat (first|refine qd _ (hs:=by simp (maxSteps:=mS) [-getElem?_pos,hc,hxL,hb1];exact rfl) (k:=?_)|refine qe _ (k:=?_))
   refine qc ?_
   simp (maxSteps:=mS) [-Prod.exists,-Prod.forall,w1]
   exact⟨i+1,by omega,by omega,by simp[hfin]⟩
  ·rw[hq]
   obtain⟨SL,hSL⟩:∃SL,LQ.take i=SL:=⟨_,rfl⟩
   rw[hSL] at hall hb hfin ⊢
   simp (maxSteps:=mS) [-getElem?_pos,-Prod.exists,-Prod.forall,-qb,hc]
   refine qg [] _ (k:=?_)
   repeat (first|refine qd _ (hs:=by simp (maxSteps:=mS) [-getElem?_pos,hc,hxL,hall,hb];exact rfl) (k:=?_)|refine qe _ (k:=?_))
   refine qc ?_
   simp (maxSteps:=mS) [-Prod.exists,-Prod.forall,w1]
   exact⟨i+1,by omega,by omega,by simp[hfin]⟩
 ·obtain rfl:i=LQ.length:=by omega
  rw[List.take_length]
  obtain⟨oQ,hoQ⟩:∃o,slN 94 3 LQ=.sl o LQ:=by cases LQ<;>exact⟨_,rfl⟩
  rw[hoQ]
  obtain⟨vQ,hvQ⟩:∃v,AV.sl oQ LQ=v:=⟨_,rfl⟩
  clear w1 hi
  rw[hvQ]
  simp (maxSteps:=mS) [-Prod.exists,-Prod.forall,hc]
  clear hc
  refine qf (I:=fun i:Nat=>⟨[(1,.lp 1 0),(2,.lp 2 0),(3,.gp σ.length 0 (some (36,6))),(5,.int .i64 i)],[(1,[.str m,.str g,.sl .sh LQ,.sl .sh LM,.sl .sh LP,.sl .sh LT]),(2,[.str [],.str [],.sl .nil [],.sl .nil [],.sl .nil [],.sl .nil []])],σ++[[.str m,.str g,vQ,.sl .sh LM,slN 95 4 (LP.take i),.sl .nil []]]⟩) (Pr:=fun i=>i≤LP.length) (μ:=fun i=>LP.length-i) (a:=0) (by simp[slN]) (by simp) ?_
  rintro i hi
  try simp only at hi ⊢
  have w1:=wr1 i (by omega)
  by_cases hc:i<LP.length
  ·obtain⟨⟨⟨x1,x2⟩,x3,x4⟩,hx⟩:∃y,rp[i]? = some y:=⟨_,List.getElem?_eq_getElem (by omega)⟩
   have hxL:LP[i]? = some (.agg [.str x1,.str x2,.str x3,.str x4]):=by rw[← hLP,List.getElem?_map,hx];rfl
   have hnx:LP.take (i+1)=LP.take i++[.agg [.str x1,.str x2,.str x3,.str x4]]:=by rw[List.take_add_one,hxL];rfl
   have hfin:slN 95 4 (LP.take (i+1))=.sl (.ex 95 4) (LP.take i++[.agg [.str x1,.str x2,.str x3,.str x4]]):=by rw[hnx];exact qfy _ _ _ _
   have hall:=haP i
   have hb:(LP.take i).length+1≤most:=by rw[List.length_take];unfold most;omega
   rcases qbz 95 4 (LP.take i) with ⟨h0,hq⟩|hq
   ·rw[hq]
    rw[h0] at hfin
    simp (maxSteps:=mS) [-getElem?_pos,-Prod.exists,-Prod.forall,-qb,hc]
    refine qg [] _ (k:=?_)
    repeat (first|refine qd _ (hs:=by simp (maxSteps:=mS) [-getElem?_pos,hc,hxL,hb1];exact rfl) (k:=?_)|refine qe _ (k:=?_))
    refine qc ?_
    simp (maxSteps:=mS) [-Prod.exists,-Prod.forall,w1]
    exact⟨i+1,by omega,by omega,by simp[hfin]⟩
   ·rw[hq]
    obtain⟨SL,hSL⟩:∃SL,LP.take i=SL:=⟨_,rfl⟩
    rw[hSL] at hall hb hfin ⊢
    simp (maxSteps:=mS) [-getElem?_pos,-Prod.exists,-Prod.forall,-qb,hc]
    refine qg [] _ (k:=?_)
    repeat (first|refine qd _ (hs:=by simp (maxSteps:=mS) [-getElem?_pos,hc,hxL,hall,hb];exact rfl) (k:=?_)|refine qe _ (k:=?_))
    refine qc ?_
    simp (maxSteps:=mS) [-Prod.exists,-Prod.forall,w1]
    exact⟨i+1,by omega,by omega,by simp[hfin]⟩
  ·obtain rfl:i=LP.length:=by omega
   rw[List.take_length]
   obtain⟨oP,hoP⟩:∃o,slN 95 4 LP=.sl o LP:=by cases LP<;>exact⟨_,rfl⟩
   rw[hoP]
   obtain⟨vP,hvP⟩:∃v,AV.sl oP LP=v:=⟨_,rfl⟩
   clear w1 hi
   rw[hvP]
   simp (maxSteps:=mS) [-Prod.exists,-Prod.forall,hc]
   clear hc
   refine qf (I:=fun i:Nat=>⟨[(1,.lp 1 0),(2,.lp 2 0),(3,.gp σ.length 0 (some (36,6))),(6,.int .i64 i)],[(1,[.str m,.str g,.sl .sh LQ,.sl .sh LM,.sl .sh LP,.sl .sh LT]),(2,[.str [],.str [],.sl .nil [],.sl .nil [],.sl .nil [],.sl .nil []])],σ++[[.str m,.str g,vQ,.sl .sh LM,vP,slN 96 2 (LT.take i)]]⟩) (Pr:=fun i=>i≤LT.length) (μ:=fun i=>LT.length-i) (a:=0) (by simp[slN]) (by simp) ?_
   rintro i hi
   try simp only at hi ⊢
   have w1:=wr1 i (by omega)
   by_cases hc:i<LT.length
   ·obtain⟨⟨x1,x2⟩,hx⟩:∃y,rt[i]? = some y:=⟨_,List.getElem?_eq_getElem (by omega)⟩
    have hxL:LT[i]? = some (.agg [.str x1,.str x2]):=by rw[← hLT,List.getElem?_map,hx];rfl
    have hnx:LT.take (i+1)=LT.take i++[.agg [.str x1,.str x2]]:=by rw[List.take_add_one,hxL];rfl
    have hfin:slN 96 2 (LT.take (i+1))=.sl (.ex 96 2) (LT.take i++[.agg [.str x1,.str x2]]):=by rw[hnx];exact qfy _ _ _ _
    have hall:=haT i
    have hb:(LT.take i).length+1≤most:=by rw[List.length_take];unfold most;omega
    rcases qbz 96 2 (LT.take i) with ⟨h0,hq⟩|hq
    ·rw[hq]
     rw[h0] at hfin
     simp (maxSteps:=mS) [-getElem?_pos,-Prod.exists,-Prod.forall,-qb,hc]
     refine qg [] _ (k:=?_)
     repeat (first|refine qd _ (hs:=by simp (maxSteps:=mS) [-getElem?_pos,hc,hxL,hb1];exact rfl) (k:=?_)|refine qe _ (k:=?_))
     refine qc ?_
     simp (maxSteps:=mS) [-Prod.exists,-Prod.forall,w1]
     exact⟨i+1,by omega,by omega,by simp[hfin]⟩
    ·rw[hq]
     obtain⟨SL,hSL⟩:∃SL,LT.take i=SL:=⟨_,rfl⟩
     rw[hSL] at hall hb hfin ⊢
     simp (maxSteps:=mS) [-getElem?_pos,-Prod.exists,-Prod.forall,-qb,hc]
     refine qg [] _ (k:=?_)
     repeat (first|refine qd _ (hs:=by simp (maxSteps:=mS) [-getElem?_pos,hc,hxL,hall,hb];exact rfl) (k:=?_)|refine qe _ (k:=?_))
     refine qc ?_
     simp (maxSteps:=mS) [-Prod.exists,-Prod.forall,w1]
     exact⟨i+1,by omega,by omega,by simp[hfin]⟩
   ·obtain rfl:i=LT.length:=by omega
    rw[List.take_length]
    obtain⟨oT,hoT⟩:∃o,slN 96 2 LT=.sl o LT:=by cases LT<;>exact⟨_,rfl⟩
    rw[hoT]
    obtain⟨vT,hvT⟩:∃v,AV.sl oT LT=v:=⟨_,rfl⟩
    clear w1 hi
    subst hvQ hvP
    clear hvT
    simp (maxSteps:=mS) [hc,lwQ,lwM,lwP,lwT,results18]
end Go.Proofs.Tryz.Ai
end
