/- Part 39 of a proof: Go functions are evaluated on abstract values; no conditions beyond those of each theorem. -/
import Derived.Test.YtjkkcelnfokplaaGreatDoorFi38
set_option linter.all false
set_option maxHeartbeats 16000000
set_option maxRecDepth 4000
section
namespace Go.Proofs.Tryz.Ai
open Go Go.AI Go.Proofs
def alikeB (a b:Mf):Bool:=decide (a.m=b.m∧a.g=b.g∧a.rq=b.rq∧a.ex=b.ex∧a.rp=b.rp∧a.rt=b.rt)
theorem qfa {a b:Mf}:alikeB a b=true↔a=b:=by
 obtain⟨a1,a2,a3,a4,a5,a6⟩:=a
 obtain⟨b1,b2,b3,b4,b5,b6⟩:=b
 simp[alikeB]
theorem qsi {a b:Mf} (h:a≠b):alikeB a b=false:=by
 cases e:alikeB a b with
 | false=>rfl
 | true=>exact absurd (qfa.1 e) h
theorem take_same {α:Type} {l k:List α} {i:Nat} {x:α} (h:l.take i=k.take i) (h1:l[i]? = some x) (h2:k[i]? = some x):l.take (i+1)=k.take (i+1):=by
 rw[List.take_add_one,List.take_add_one,h,h1,h2]
theorem qbn {α:Type} {l k:List α} {i:Nat} {x y:α} (h1:l[i]? = some x) (h2:k[i]? = some y) (h:x≠y):l≠k:=fun e=>by
 subst e;rw[h1] at h2;injection h2 with h2;exact h h2
theorem qy4 (am ag:List UInt8) (arq:List Rq) (aex:List (List UInt8×List UInt8)) (arp:List Rp) (art:List Rt) (bm bg:List UInt8) (brq:List Rq) (bex:List (List UInt8×List UInt8)) (brp:List Rp) (brt:List Rt)
  (hq:arq.length≤2^29) (he:aex.length≤2^29) (hp:arp.length≤2^29) (ht:art.length≤2^29) (σ:List (List AV)) :
  ev 11 [mfF ⟨am,ag,arq,aex,arp,art⟩,mfF ⟨bm,bg,brq,bex,brp,brt⟩] σ=some (.bool (alikeB ⟨am,ag,arq,aex,arp,art⟩ ⟨bm,bg,brq,bex,brp,brt⟩),σ):=by
 have hM:=qmf aex bex (by omega) σ
 obtain⟨R,hR⟩:∃R,alikeB ⟨am,ag,arq,aex,arp,art⟩ ⟨bm,bg,brq,bex,brp,brt⟩=R:=⟨_,rfl⟩
 have hF:(⟨am,ag,arq,aex,arp,art⟩:Mf)≠⟨bm,bg,brq,bex,brp,brt⟩→R=false:=fun h=>by rw[← hR];exact qsi h
 rw[mfFx,mfFx,hR]
 simp only
 obtain⟨AQ,hAQ⟩:∃L,arq.map rqF=L:=⟨_,rfl⟩
 have hmAQ:AQ.length=arq.length:=by rw[← hAQ];simp
 obtain⟨BQ,hBQ⟩:∃L,brq.map rqF=L:=⟨_,rfl⟩
 have hmBQ:BQ.length=brq.length:=by rw[← hBQ];simp
 obtain⟨AM,hAM⟩:∃L,aex.map modA=L:=⟨_,rfl⟩
 have hmAM:AM.length=aex.length:=by rw[← hAM];simp
 obtain⟨BM,hBM⟩:∃L,bex.map modA=L:=⟨_,rfl⟩
 have hmBM:BM.length=bex.length:=by rw[← hBM];simp
 obtain⟨AP,hAP⟩:∃L,arp.map rpF=L:=⟨_,rfl⟩
 have hmAP:AP.length=arp.length:=by rw[← hAP];simp
 obtain⟨BP,hBP⟩:∃L,brp.map rpF=L:=⟨_,rfl⟩
 have hmBP:BP.length=brp.length:=by rw[← hBP];simp
 obtain⟨AT,hAT⟩:∃L,art.map rtF=L:=⟨_,rfl⟩
 have hmAT:AT.length=art.length:=by rw[← hAT];simp
 obtain⟨BT,hBT⟩:∃L,brt.map rtF=L:=⟨_,rfl⟩
 have hmBT:BT.length=brt.length:=by rw[← hBT];simp
 rw[hAQ,hAM,hAP,hAT,hBQ,hBM,hBP,hBT]
 rw[hAM,hBM] at hM
 refine qk func11 ntmps11 ?_
 by_cases h1:am=bm
 rotate_left
 ·have h1':(am==bm)=false:=by simpa using h1
  have:=hF fun e=>h1 (by injection e)
  subst this
  simp (maxSteps:=mS) [-beq_iff_eq,-beq_eq_false_iff_ne,h1',results11]
 by_cases h2:ag=bg
 rotate_left
 ·have h2':(ag==bg)=false:=by simpa using h2
  have:=hF fun e=>h2 (by injection e)
  subst this
  simp (maxSteps:=mS) [-beq_iff_eq,-beq_eq_false_iff_ne,h1,h2',results11]
 subst h1 h2
 by_cases lQ:AQ.length=BQ.length
 rotate_left
 ·have:=hF fun e=>lQ (by rw[hmAQ,hmBQ];injection e with _ _ e1 e2 e3 e4;simp[e1,e2,e3,e4])
  subst this
  simp (maxSteps:=mS) [lQ,results11]
 by_cases lP:AP.length=BP.length
 rotate_left
 ·have:=hF fun e=>lP (by rw[hmAP,hmBP];injection e with _ _ e1 e2 e3 e4;simp[e1,e2,e3,e4])
  subst this
  simp (maxSteps:=mS) [lQ,lP,results11]
 by_cases lT:AT.length=BT.length
 rotate_left
 ·have:=hF fun e=>lT (by rw[hmAT,hmBT];injection e with _ _ e1 e2 e3 e4;simp[e1,e2,e3,e4])
  subst this
  simp (maxSteps:=mS) [lQ,lP,lT,results11]
 simp (maxSteps:=mS) [-Prod.exists,-Prod.forall,lQ,lP,lT]
 refine qf (I:=fun i:Nat=>⟨[(2,.lp 2 0),(3,.lp 3 0),(5,.int .i64 i)],[(2,[.str am,.str ag,.sl .sh AQ,.sl .sh AM,.sl .sh AP,.sl .sh AT]),(3,[.str am,.str ag,.sl .sh BQ,.sl .sh BM,.sl .sh BP,.sl .sh BT])],σ⟩) (Pr:=fun i=>i≤AQ.length∧arq.take i=brq.take i) (μ:=fun i=>AQ.length-i) (a:=0) (by simp) (by simp) ?_
 rintro i ⟨hi,hs⟩
 try simp only at hi hs ⊢
 have w1:=wr1 i (by omega)
 by_cases hc:i<AQ.length
 ·have hcB:i<BQ.length:=by omega
  obtain⟨⟨x1,x2,x3⟩,hx⟩:∃y,arq[i]? = some y:=⟨_,List.getElem?_eq_getElem (by omega)⟩
  obtain⟨⟨y1,y2,y3⟩,hy⟩:∃y,brq[i]? = some y:=⟨_,List.getElem?_eq_getElem (by omega)⟩
  have hxL:AQ[i]? = some (.agg [.str x1,.str x2,.bool x3]):=by rw[← hAQ,List.getElem?_map,hx];rfl
  have hyL:BQ[i]? = some (.agg [.str y1,.str y2,.bool y3]):=by rw[← hBQ,List.getElem?_map,hy];rfl
  by_cases e1:x1=y1
  ·by_cases e2:x2=y2
   ·by_cases e3:x3=y3
    ·subst e1 e2 e3
     simp (maxSteps:=mS) [-getElem?_pos,-Prod.exists,-Prod.forall,-qb,hc]
     refine qg [] _ (k:=?_)
     repeat (first|refine qd _ (hs:=by simp (maxSteps:=mS) [-getElem?_pos,hc,hcB,hxL,hyL];exact rfl) (k:=?_)|refine qe _ (k:=?_))
     refine qc ?_
     simp (maxSteps:=mS) [-Prod.exists,-Prod.forall,w1]
     exact⟨i+1,⟨by omega,take_same hs hx hy⟩,by omega,by simp⟩
    ·have e3':(x3==y3)=false:=by simpa using e3
     subst e1 e2
     have:=hF (fun e=>qbn hx hy (fun e=>e3 (by simp at e;simp[e])) (by injection e))
     subst this
     simp (maxSteps:=mS) [-getElem?_pos,-Prod.exists,-Prod.forall,-beq_iff_eq,-beq_eq_false_iff_ne,-qb,hc]
     refine qg [] _ (k:=?_)
     repeat (first|refine qd _ (hs:=by simp (maxSteps:=mS) [-getElem?_pos,-beq_iff_eq,-beq_eq_false_iff_ne,hc,hcB,hxL,hyL,e3'];exact rfl) (k:=?_)|refine qe _ (k:=?_))
     refine qc ?_
     simp (maxSteps:=mS) [results11]
   ·have e2':(x2==y2)=false:=by simpa using e2
    subst e1
    have:=hF (fun e=>qbn hx hy (fun e=>e2 (by simp at e;simp[e])) (by injection e))
    subst this
    simp (maxSteps:=mS) [-getElem?_pos,-Prod.exists,-Prod.forall,-beq_iff_eq,-beq_eq_false_iff_ne,-qb,hc]
    refine qg [] _ (k:=?_)
    repeat (first|refine qd _ (hs:=by simp (maxSteps:=mS) [-getElem?_pos,-beq_iff_eq,-beq_eq_false_iff_ne,hc,hcB,hxL,hyL,e2'];exact rfl) (k:=?_)|refine qe _ (k:=?_))
    refine qc ?_
    simp (maxSteps:=mS) [results11]
  ·have e1':(x1==y1)=false:=by simpa using e1
   have:=hF (fun e=>qbn hx hy (fun e=>e1 (by simp at e;simp[e])) (by injection e))
   subst this
   simp (maxSteps:=mS) [-getElem?_pos,-Prod.exists,-Prod.forall,-beq_iff_eq,-beq_eq_false_iff_ne,-qb,hc]
   refine qg [] _ (k:=?_)
   repeat (first|refine qd _ (hs:=by simp (maxSteps:=mS) [-getElem?_pos,-beq_iff_eq,-beq_eq_false_iff_ne,hc,hcB,hxL,hyL,e1'];exact rfl) (k:=?_)|refine qe _ (k:=?_))
   refine qc ?_
   simp (maxSteps:=mS) [results11]
 ·have hrq:arq=brq:=by
   rw[List.take_of_length_le (by omega),List.take_of_length_le (by omega)] at hs;exact hs
  clear hs hi w1
  simp (maxSteps:=mS) [-Prod.exists,-Prod.forall,hc]
  clear hc
  refine qf (I:=fun i:Nat=>⟨[(2,.lp 2 0),(3,.lp 3 0),(6,.int .i64 i)],[(2,[.str am,.str ag,.sl .sh AQ,.sl .sh AM,.sl .sh AP,.sl .sh AT]),(3,[.str am,.str ag,.sl .sh BQ,.sl .sh BM,.sl .sh BP,.sl .sh BT])],σ⟩) (Pr:=fun i=>i≤AP.length∧arp.take i=brp.take i) (μ:=fun i=>AP.length-i) (a:=0) (by simp) (by simp) ?_
  rintro i ⟨hi,hs⟩
  try simp only at hi hs ⊢
  have w1:=wr1 i (by omega)
  by_cases hc:i<AP.length
  ·have hcB:i<BP.length:=by omega
   obtain⟨⟨⟨x1,x2⟩,x3,x4⟩,hx⟩:∃y,arp[i]? = some y:=⟨_,List.getElem?_eq_getElem (by omega)⟩
   obtain⟨⟨⟨y1,y2⟩,y3,y4⟩,hy⟩:∃y,brp[i]? = some y:=⟨_,List.getElem?_eq_getElem (by omega)⟩
   have hxL:AP[i]? = some (.agg [.str x1,.str x2,.str x3,.str x4]):=by rw[← hAP,List.getElem?_map,hx];rfl
   have hyL:BP[i]? = some (.agg [.str y1,.str y2,.str y3,.str y4]):=by rw[← hBP,List.getElem?_map,hy];rfl
   by_cases e1:x1=y1
   ·by_cases e2:x2=y2
    ·by_cases e3:x3=y3
     ·by_cases e4:x4=y4
      ·subst e1 e2 e3 e4
       simp (maxSteps:=mS) [-getElem?_pos,-Prod.exists,-Prod.forall,-qb,hc]
       refine qg [] _ (k:=?_)
       repeat (first|refine qd _ (hs:=by simp (maxSteps:=mS) [-getElem?_pos,hc,hcB,hxL,hyL];exact rfl) (k:=?_)|refine qe _ (k:=?_))
       refine qc ?_
       simp (maxSteps:=mS) [-Prod.exists,-Prod.forall,w1]
       exact⟨i+1,⟨by omega,take_same hs hx hy⟩,by omega,by simp⟩
      ·have e4':(x4==y4)=false:=by simpa using e4
       subst e1 e2 e3
       have:=hF (fun e=>qbn hx hy (fun e=>e4 (by simp at e;simp[e])) (by injection e))
       subst this
       simp (maxSteps:=mS) [-getElem?_pos,-Prod.exists,-Prod.forall,-beq_iff_eq,-beq_eq_false_iff_ne,-qb,hc]
       refine qg [] _ (k:=?_)
       repeat (first|refine qd _ (hs:=by simp (maxSteps:=mS) [-getElem?_pos,-beq_iff_eq,-beq_eq_false_iff_ne,hc,hcB,hxL,hyL,e4'];exact rfl) (k:=?_)|refine qe _ (k:=?_))
       refine qc ?_
       simp (maxSteps:=mS) [results11]
     ·have e3':(x3==y3)=false:=by simpa using e3
      subst e1 e2
      have:=hF (fun e=>qbn hx hy (fun e=>e3 (by simp at e;simp[e])) (by injection e))
      subst this
      simp (maxSteps:=mS) [-getElem?_pos,-Prod.exists,-Prod.forall,-beq_iff_eq,-beq_eq_false_iff_ne,-qb,hc]
      refine qg [] _ (k:=?_)
      repeat (first|refine qd _ (hs:=by simp (maxSteps:=mS) [-getElem?_pos,-beq_iff_eq,-beq_eq_false_iff_ne,hc,hcB,hxL,hyL,e3'];exact rfl) (k:=?_)|refine qe _ (k:=?_))
      refine qc ?_
      simp (maxSteps:=mS) [results11]
    ·have e2':(x2==y2)=false:=by simpa using e2
     subst e1
     have:=hF (fun e=>qbn hx hy (fun e=>e2 (by simp at e;simp[e])) (by injection e))
     subst this
     simp (maxSteps:=mS) [-getElem?_pos,-Prod.exists,-Prod.forall,-beq_iff_eq,-beq_eq_false_iff_ne,-qb,hc]
     refine qg [] _ (k:=?_)
     repeat (first|refine qd _ (hs:=by simp (maxSteps:=mS) [-getElem?_pos,-beq_iff_eq,-beq_eq_false_iff_ne,hc,hcB,hxL,hyL,e2'];exact rfl) (k:=?_)|refine qe _ (k:=?_))
     refine qc ?_
     simp (maxSteps:=mS) [results11]
   ·have e1':(x1==y1)=false:=by simpa using e1
    have:=hF (fun e=>qbn hx hy (fun e=>e1 (by simp at e;simp[e])) (by injection e))
    subst this
    simp (maxSteps:=mS) [-getElem?_pos,-Prod.exists,-Prod.forall,-beq_iff_eq,-beq_eq_false_iff_ne,-qb,hc]
    refine qg [] _ (k:=?_)
    repeat (first|refine qd _ (hs:=by simp (maxSteps:=mS) [-getElem?_pos,-beq_iff_eq,-beq_eq_false_iff_ne,hc,hcB,hxL,hyL,e1'];exact rfl) (k:=?_)|refine qe _ (k:=?_))
    refine qc ?_
    simp (maxSteps:=mS) [results11]
  ·have hrp:arp=brp:=by
    rw[List.take_of_length_le (by omega),List.take_of_length_le (by omega)] at hs;exact hs
   clear hs hi w1
   simp (maxSteps:=mS) [-Prod.exists,-Prod.forall,hc]
   clear hc
   refine qf (I:=fun i:Nat=>⟨[(2,.lp 2 0),(3,.lp 3 0),(7,.int .i64 i)],[(2,[.str am,.str ag,.sl .sh AQ,.sl .sh AM,.sl .sh AP,.sl .sh AT]),(3,[.str am,.str ag,.sl .sh BQ,.sl .sh BM,.sl .sh BP,.sl .sh BT])],σ⟩) (Pr:=fun i=>i≤AT.length∧art.take i=brt.take i) (μ:=fun i=>AT.length-i) (a:=0) (by simp) (by simp) ?_
   rintro i ⟨hi,hs⟩
   try simp only at hi hs ⊢
   have w1:=wr1 i (by omega)
   by_cases hc:i<AT.length
   ·have hcB:i<BT.length:=by omega
    obtain⟨⟨x1,x2⟩,hx⟩:∃y,art[i]? = some y:=⟨_,List.getElem?_eq_getElem (by omega)⟩
    obtain⟨⟨y1,y2⟩,hy⟩:∃y,brt[i]? = some y:=⟨_,List.getElem?_eq_getElem (by omega)⟩
    have hxL:AT[i]? = some (.agg [.str x1,.str x2]):=by rw[← hAT,List.getElem?_map,hx];rfl
    have hyL:BT[i]? = some (.agg [.str y1,.str y2]):=by rw[← hBT,List.getElem?_map,hy];rfl
    by_cases e1:x1=y1
    ·by_cases e2:x2=y2
     ·subst e1 e2
      simp (maxSteps:=mS) [-getElem?_pos,-Prod.exists,-Prod.forall,-qb,hc]
      refine qg [] _ (k:=?_)
      repeat (first|refine qd _ (hs:=by simp (maxSteps:=mS) [-getElem?_pos,hc,hcB,hxL,hyL];exact rfl) (k:=?_)|refine qe _ (k:=?_))
      refine qc ?_
      simp (maxSteps:=mS) [-Prod.exists,-Prod.forall,w1]
      exact⟨i+1,⟨by omega,take_same hs hx hy⟩,by omega,by simp⟩
     ·have e2':(x2==y2)=false:=by simpa using e2
      subst e1
      have:=hF (fun e=>qbn hx hy (fun e=>e2 (by simp at e;simp[e])) (by injection e))
      subst this
      simp (maxSteps:=mS) [-getElem?_pos,-Prod.exists,-Prod.forall,-beq_iff_eq,-beq_eq_false_iff_ne,-qb,hc]
      refine qg [] _ (k:=?_)
      repeat (first|refine qd _ (hs:=by simp (maxSteps:=mS) [-getElem?_pos,-beq_iff_eq,-beq_eq_false_iff_ne,hc,hcB,hxL,hyL,e2'];exact rfl) (k:=?_)|refine qe _ (k:=?_))
      refine qc ?_
      simp (maxSteps:=mS) [results11]
    ·have e1':(x1==y1)=false:=by simpa using e1
     have:=hF (fun e=>qbn hx hy (fun e=>e1 (by simp at e;simp[e])) (by injection e))
     subst this
     simp (maxSteps:=mS) [-getElem?_pos,-Prod.exists,-Prod.forall,-beq_iff_eq,-beq_eq_false_iff_ne,-qb,hc]
     refine qg [] _ (k:=?_)
     repeat (first|refine qd _ (hs:=by simp (maxSteps:=mS) [-getElem?_pos,-beq_iff_eq,-beq_eq_false_iff_ne,hc,hcB,hxL,hyL,e1'];exact rfl) (k:=?_)|refine qe _ (k:=?_))
     refine qc ?_
     simp (maxSteps:=mS) [results11]
   ·have hrt:art=brt:=by
     rw[List.take_of_length_le (by omega),List.take_of_length_le (by omega)] at hs;exact hs
    clear hs hi w1
    by_cases he:aex=bex
    ·have hT:R=true:=by rw[← hR,qfa,hrq,hrp,hrt,he]
     have he':decide (aex=bex)=true:=by simpa using he
     subst hT
     simp (maxSteps:=mS) [hc,hM,he,results11]
    ·have hT:=hF fun e=>he (by injection e)
     have he':decide (aex=bex)=false:=by simpa using he
     subst hT
     simp (maxSteps:=mS) [hc,hM,he,results11]
theorem qsj (a b:Mf) (ha:MfB a) (σ:List (List AV)):ev 11 [mfF a,mfF b] σ=some (.bool (alikeB a b),σ):=qy4 a.m a.g a.rq a.ex a.rp a.rt b.m b.g b.rq b.ex b.rp b.rt ha.lq ha.le ha.lp ha.lt σ
end Go.Proofs.Tryz.Ai
end
