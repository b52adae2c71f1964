/- Part 21 of a proof: Go functions are evaluated on abstract values; no conditions beyond those of each theorem. -/
import Derived.Test.YtjkkcelnfokplaaGreatDoorFi16
set_option linter.all false
set_option maxHeartbeats 16000000
set_option maxRecDepth 4000
section
namespace Go.Proofs.Tryz.Ai
open Go Go.AI Go.Proofs
theorem qyo (c:UInt8) (l:List UInt8):lixI c l=match lix c l with
 | some n=>(n:Int)
 | none=>-1:=rfl
theorem qeq (p:List UInt8) (hp:p.length≤2^30) (σ):ev 143 [.str p] σ=some (.tup [.str (splitMB p).1,.int .i64 (splitMB p).2],σ):=by
 have h1:=qej p (by omega) 47
 refine qk func143 ntmps143 ?_
 cases hx:lix 47 p with
 | none =>
  have e1:lixI 47 p=-1:=by simp[lixI,hx]
  have e2:splitMB p=(p,0):=by simp[splitMB,hx]
  simp (maxSteps:=mS) [h1,e1,e2,results143]
 | some i =>
  have e1:lixI 47 p=i:=by simp[lixI,hx]
  have hi:=(qee hx).1
  obtain⟨q,hq⟩:∃q,p.drop (i+1)=q:=⟨_,rfl⟩
  have hql:q.length≤2^30:=by rw[← hq];simp;omega
  have w1:=wr1 i (by omega)
  have w2:i+1≤p.length:=by omega
  have w3:i≤p.length:=by omega
  have h2:=qfh q [118] (by omega) (by simp)
  have e2:splitMB p=match majB q with
    | none=>(p,0)
    | some n=>(p.take i,n):=by unfold splitMB;rw[hx];simp only[hq];cases majB q<;>rfl
  cases q with
  | nil =>
   have h3:=qce [] (by simp)
   have h4:numB []=none:=by simp[numB,numOk,allB]
   have h6:majB []=none:=rfl
   rw[h4] at h3
   rw[h6] at e2
   simp only[List.isPrefixOf,Bool.false_eq_true,if_false] at h2
   simp only at e2
   simp (maxSteps:=mS) [h1,e1,e2,hq,w1,w2,h2,h3,results143]
  | cons c r =>
   simp only[List.length_cons] at hql
   by_cases hc:c=118
   ·subst hc
    have h5:List.isPrefixOf [(118:UInt8)] (118::r)=true:=by simp[List.isPrefixOf]
    rw[h5] at h2
    simp only[if_true,List.length_cons,List.length_nil,Nat.zero_add,List.drop_succ_cons,List.drop_zero] at h2
    have h3:=qce r (by omega)
    have h7:majB (118::r)=match numB r with
      | none=>none
      | some n=>if n<2 then none else some n:=rfl
    cases hn:numB r with
    | none =>
     rw[hn] at h3 h7
     rw[h7] at e2
     simp only at e2
     simp (maxSteps:=mS) [h1,e1,e2,hq,w1,w2,h2,h3,results143]
    | some n =>
     rw[hn] at h3 h7
     simp only at h7
     by_cases h6:n<2
     ·rw[if_pos h6] at h7
      rw[h7] at e2
      simp (maxSteps:=mS) [h1,e1,e2,hq,w1,w2,h2,h3,h6,results143]
     ·rw[if_neg h6] at h7
      rw[h7] at e2
      simp (maxSteps:=mS) [h1,e1,e2,hq,w1,w2,w3,h2,h3,h6,results143]
   ·have h5:List.isPrefixOf [(118:UInt8)] (c::r)=false:=by simp[List.isPrefixOf];exact fun e=>hc e.symm
    have h7:majB (c::r)=none:=by simp[majB,hc]
    rw[h7] at e2
    rw[h5] at h2
    simp only[Bool.false_eq_true,if_false] at h2
    have h3:=qce (c::r) (by simp;omega)
    simp (maxSteps:=mS) [h1,e1,e2,hq,w1,w2,h2,h3,results143]
theorem elements_eq (p o:List UInt8) (hp:p.length≤2^30) (b:Nat) (sh) (σ:List (List AV)) (hb:σ[b]? = some [.str o]):ev 138 [.str p,.fn 208 [.gp b 0 sh]] σ=some (.bool (elemsB o p),σ):=by
 have hS:=qdc p hp 47
 obtain⟨L,hL⟩:∃L,splitB 47 p=L:=⟨_,rfl⟩
 have hm:∀x∈L,x.length≤2^30:=fun x hx=>Nat.le_trans (qay (hL▸hx)) hp
 have hn:L.length≤2^31:=by rw[← hL];have:=qaq 47 p;omega
 have hAll:elemsB o p=L.all (elemB o):=by unfold elemsB;rw[hL]
 rw[hL] at hS
 refine qk func138 ntmps138 ?_
 simp (maxSteps:=mS) [hS]
 refine qf (I:=fun i:Nat=>⟨[(1,.fn 208 [.gp b 0 sh]),(8,.sl (.ex 9 1) (L.map .str)),(9,.int .i64 L.length),(10,.int .i64 i)],[],σ⟩) (Pr:=fun i=>i≤L.length∧∀x∈L.take i,elemB o x=true) (μ:=fun i=>L.length-i) (a:=0) (by simp) (by simp) ?_
 rintro i ⟨hi,ha⟩
 by_cases hc:i<L.length
 ·obtain⟨x,hx⟩:∃x,L[i]=x:=⟨_,rfl⟩
  have hx2:L[i]? = some x:=by rw[← hx];exact List.getElem?_eq_getElem hc
  have hxl:=hm x (hx▸List.getElem_mem hc)
  have h1:=qri x o (by omega) b sh σ hb
  have w6:=wr1 i (by omega)
  have bad:elemB o x=false→elemsB o p=false:=fun e=>by rw[hAll,Bool.eq_false_iff];intro h;have:=List.all_eq_true.1 h _ (hx▸List.getElem_mem hc);rw[e] at this;cases this
  by_cases hA:allB (wordB o) x=true
  ·obtain⟨c,r,hcr⟩:∃c r,x=c::r:=by cases x with
    | nil=>simp[allB] at hA
    | cons c r=>exact⟨c,r,rfl⟩
   have g0:x[0]? = some c:=by rw[hcr];rfl
   have hlen:x.length=r.length+1:=by rw[hcr];simp
   obtain⟨d,hd⟩:∃d,x[r.length]? = some d:=⟨_,List.getElem?_eq_getElem (by omega)⟩
   have hlast:x.getLast? = some d:=by rw[List.getLast?_eq_getElem?,hlen];simpa using hd
   have hhead:x.head? = some c:=by rw[hcr];rfl
   have w7:IntKind.i64.wrap ((x.length:Int)-1)=(r.length:Int):=by rw[qh (by omega)];omega
   by_cases e1:c=46
   ·have hf:=bad (by simp[elemB,hhead,e1])
    subst e1
    simp (maxSteps:=mS) [-getElem?_pos,hc,hx2,h1,hA,g0,hf,results138]
   ·by_cases e2:d=46
    ·have hf:=bad (by simp[elemB,hlast,e2])
     subst e2
     simp (maxSteps:=mS) [-getElem?_pos,hc,hx2,h1,hA,g0,e1,w7,hd,hf,results138]
    ·have hq:elemB o x=true:=by simp[elemB,hA,hhead,hlast,e1,e2]
     simp (maxSteps:=mS) [-getElem?_pos,hc,hx2,h1,hA,g0,e1,w7,hd,e2,w6]
     exact⟨i+1,⟨by omega,take_all hc ha (by rw[hx];exact hq)⟩,by omega,by simp⟩
  ·have hf:=bad (by simp[elemB,hA])
   simp (maxSteps:=mS) [-getElem?_pos,hc,hx2,h1,hA,hf,results138]
 ·have hi':i=L.length:=by omega
  subst hi'
  rw[List.take_length] at ha
  have ht:elemsB o p=true:=by rw[hAll];exact List.all_eq_true.2 ha
  simp (maxSteps:=mS) [ht,results138]
theorem q1a (c:UInt8) (σ):ev 136 [.int .u8 c.toNat] σ=some (.bool (oddB c),σ):=by
 have h:=qi5 c
 refine qk func136 ntmps136 ?_
 by_cases d:isU c=true
 ·simp (maxSteps:=mS) [h,d,oddB,results136]
 ·by_cases e:c=95
  ·subst e
   have h':∀σ,ev 137 [.int .u8 95] σ=some (.bool false,σ):=fun σ=>qi5 95 σ
   simp (maxSteps:=mS) [h',oddB,results136]
  ·simp (maxSteps:=mS) [h,d,e,oddB,results136]
theorem firstOdd_def (l:List UInt8):∃b,l.any oddB=b:=⟨_,rfl⟩
theorem qb4 (p:List UInt8) (hp:p.length≤2^30) (σ):ev 74 [.str p] σ=some (.int .i64 (pathB p),σ):=by
 have hw:ev 139 [.str [45,46,95,126]] σ=some (.fn 208 [.gp σ.length 0 (some (9,1))],σ++[[.str [45,46,95,126]]]):=qrh _ σ
 have he:=elements_eq p [45,46,95,126] hp σ.length (some (9,1)) (σ++[[.str [45,46,95,126]]]) (by simp)
 have hcl:=qly 47 p
 have hlm:=qqy p
 have hlx:=qyo 47 p
 have hC:=qrg p (by omega) 47
 have hL:=qej p (by omega) 47
 have hM:=qeq p hp
 have hlb:lastB p=match lix 47 p with
   | some n=>p.drop (n+1)
   | none=>p:=rfl
 refine qk func74 ntmps74 ?_
 by_cases h:100<p.length
 ·have e1:pathB p=13:=by simp[pathB,h]
  simp (maxSteps:=mS) [h,e1,results74]
 ·obtain⟨⟨f,g,more⟩,hk⟩:∃x,cutB 47 p=x:=⟨_,rfl⟩
  obtain⟨⟨sm,n⟩,hk2⟩:∃x,splitMB p=x:=⟨_,rfl⟩
  rw[hk] at hC hcl
  rw[hk2] at hM
  simp only at hC hcl hM
  have hf1:=qks f (by omega) 46
  obtain⟨od,hod⟩:=firstOdd_def f
  have hf2:=fun σ=>qyi f (by omega) 136 [] oddB (by decide) σ (fun c=>q1a c σ)
  rw[hod] at hf2
  by_cases e:elemsB [45,46,95,126] p=true
  ·rw[e] at he
   by_cases e2:46∈f
   ·obtain⟨c,r,hcr⟩:∃c r,f=c::r:=by cases f with
     | nil=>simp at e2
     | cons c r=>exact⟨c,r,rfl⟩
    have g0:f[0]? = some c:=by rw[hcr];rfl
    have hh:f.head? = some c:=by rw[hcr];rfl
    cases od with
    | true =>
     have e1:pathB p=9:=by simp only[pathB,if_neg h,hk];rw[if_pos (.inr (.inr (.inl hod)))]
     simp (maxSteps:=mS) [h,hw,he,hC,hf1,e2,hf2,e1,results74]
    | false =>
     by_cases e3:c=45
     ·have e1:pathB p=9:=by simp only[pathB,if_neg h,hk];rw[if_pos (.inr (.inr (.inr (by rw[hh,e3]))))]
      subst e3
      simp (maxSteps:=mS) [-getElem?_pos,h,hw,he,hC,hf1,e2,hf2,g0,e1,results74]
     ·have hfin:pathB p=if more=true∧(lastB p).head? = some 118∧allB isD (lastB p).tail=true∧n=0 then 10 else 0:=by
       simp only[pathB,if_neg h,hk,hk2];rw[if_neg (by simp[e,e2,hod,hh,e3])]
      obtain⟨q,hq⟩:∃q,lastB p=q:=⟨_,rfl⟩
      rw[hq] at hfin hlm hlb
      have hqe:elemB [45,46,95,126] q=true:=List.all_eq_true.1 e q hlm
      obtain⟨d,t,hdt⟩:∃d t,q=d::t:=by cases q with
       | nil=>simp[elemB,allB] at hqe
       | cons c r=>exact⟨c,r,rfl⟩
      have hql:q.length≤2^30:=by have:=qay hlm;omega
      have hx1:∃m:Nat,IntKind.i64.wrap (lixI 47 p+1)=(m:Int)∧m≤p.length∧List.drop m p=q:=by
       cases hx:lix 47 p with
       | none =>
        rw[hx] at hlx hlb
        simp only at hlx hlb
        exact⟨0,by rw[hlx];decide,by omega,by rw[hlb];rfl⟩
       | some i =>
        rw[hx] at hlx hlb
        simp only at hlx hlb
        have:=(qee hx).1
        exact⟨i+1,by rw[hlx,qh (by omega)];omega,by omega,by rw[hlb]⟩
      obtain⟨m,hm1,hm2,hm3⟩:=hx1
      have g1:q[0]? = some d:=by rw[hdt];rfl
      have g2:q.tail=t:=by rw[hdt];rfl
      have g3:1≤q.length:=by rw[hdt];simp
      have hD:=qgs t (by rw[hdt] at hql;simp at hql;omega)
      have h7:q.head? = some d:=by rw[hdt];rfl
      have h8:q.tail=t:=by rw[hdt];rfl
      rw[h7,h8] at hfin
      cases more with
      | false =>
       have e1:pathB p=0:=by rw[hfin,if_neg (by simp)]
       simp (maxSteps:=mS) [-getElem?_pos,h,hw,he,hC,hf1,e2,hf2,g0,e3,hL,hm1,hm2,hm3,hM,e1,results74]
      | true =>
       by_cases e4:d=118
       ·by_cases e5:allB isD t=true
        ·by_cases e6:n=0
         ·have e1:pathB p=10:=by rw[hfin,if_pos (by simp[e4,e5,e6])]
          subst e4 e6
          simp (maxSteps:=mS) [-getElem?_pos,h,hw,he,hC,hf1,e2,hf2,g0,e3,hL,hm1,hm2,hm3,hM,g1,g2,g3,hD,e5,e1,results74]
         ·have e1:pathB p=0:=by rw[hfin,if_neg (by simp[e6])]
          subst e4
          simp (maxSteps:=mS) [-getElem?_pos,h,hw,he,hC,hf1,e2,hf2,g0,e3,hL,hm1,hm2,hm3,hM,g1,g2,g3,hD,e5,e6,e1,results74]
        ·have e1:pathB p=0:=by rw[hfin,if_neg (by simp[e5])]
         subst e4
         simp (maxSteps:=mS) [-getElem?_pos,h,hw,he,hC,hf1,e2,hf2,g0,e3,hL,hm1,hm2,hm3,hM,g1,g2,g3,hD,e5,e1,results74]
       ·have e1:pathB p=0:=by rw[hfin,if_neg (by simp[e4])]
        simp (maxSteps:=mS) [-getElem?_pos,h,hw,he,hC,hf1,e2,hf2,g0,e3,hL,hm1,hm2,hm3,hM,g1,e4,e1,results74]
   ·have e1:pathB p=9:=by simp only[pathB,if_neg h,hk];rw[if_pos (.inr (.inl e2))]
    simp (maxSteps:=mS) [h,hw,he,hC,hf1,e2,e1,results74]
  ·have e:elemsB [45,46,95,126] p=false:=by simpa using e
   have e1:pathB p=9:=by simp only[pathB,if_neg h,hk];rw[if_pos (.inl e)]
   simp (maxSteps:=mS) [h,hw,he,hC,e,e1,results74]
theorem qo0 (v p:List UInt8) (hv:v.length≤2^30) (hp:p.length≤2^30) (σ):ev 147 [.str v,.str p] σ=some (.bool (matchesB v p),σ):=by
 have h1:=qjb v hv
 have h2:=qeq p hp
 obtain⟨⟨sm,n⟩,hk2⟩:∃x,splitMB p=x:=⟨_,rfl⟩
 rw[hk2] at h2
 refine qk func147 ntmps147 ?_
 cases e1:readB v with
 | none =>
  rw[e1] at h1
  have h4:matchesB v p=false:=by simp[matchesB,e1]
  simp (maxSteps:=mS) [h1,h2,h4,verA,results147]
 | some x =>
  rw[e1] at h1
  have h4:matchesB v p=(decide (x.ma=n)||(decide (n=0)&&decide (x.ma=1))):=by simp[matchesB,e1,hk2]
  by_cases d1:x.ma=n
  ·simp (maxSteps:=mS) [h1,h2,h4,d1,verA,results147]
  ·by_cases d2:n=0
   ·subst d2
    simp (maxSteps:=mS) [h1,h2,h4,d1,verA,results147]
   ·simp (maxSteps:=mS) [h1,h2,h4,d1,d2,verA,results147]
end Go.Proofs.Tryz.Ai
end
