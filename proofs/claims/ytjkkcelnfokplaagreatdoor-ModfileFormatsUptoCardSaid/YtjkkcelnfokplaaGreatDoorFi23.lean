/- Part 23 of a proof: Go functions are evaluated on abstract values; no conditions beyond those of each theorem. -/
import Derived.Test.YtjkkcelnfokplaaGreatDoorFi22
set_option linter.all false
set_option maxHeartbeats 16000000
set_option maxRecDepth 4000
section
namespace Go.Proofs.Tryz.Ai
open Go Go.AI Go.Proofs
def sufB:List UInt8→Nat
 | []=>0
 | c::r=>if c≠118 then 0 else match numB r with
  | none=>0
  | some n=>n
theorem qyp {q:List UInt8} {n:Nat} (h:majB q=some n):sufB q=n:=by
 cases q with
 | nil=>cases h
 | cons c r =>
  simp only[majB] at h
  simp only[sufB]
  split at h
  ·cases h
  ·rename_i h0
   rw[if_neg h0]
   split at h
   ·cases h
   ·rename_i m hm
    rw[hm]
    split at h
    ·cases h
    ·injection h
theorem qia (q:List UInt8) (hl:q.length≤2^30) (σ):ev 155 [.str q] σ=some (.tup [.int .i64 (sufB q),.bool (majB q).isSome],σ):=by
 refine qk func155 ntmps155 ?_
 cases q with
 | nil=>simp (maxSteps:=mS) [sufB,majB,results155]
 | cons c r =>
  cases r with
  | nil =>
   have h1:majB [c]=none:=by simp[majB,numB,numOk,allB]
   have h2:sufB [c]=0:=by simp[sufB,numB,numOk,allB]
   simp (maxSteps:=mS) [h1,h2,results155]
  | cons d r =>
   obtain⟨S,hS⟩:∃S,d::r=S:=⟨_,rfl⟩
   have hlen:S.length=r.length+1:=by rw[← hS];simp
   have hSl:S.length≤2^30:=by rw[hS] at hl;simp at hl;omega
   rw[hS]
   have hn:=qdu S (by omega)
   have c0:¬((S.length:Int)+1<2):=by omega
   have c1:¬(S.length+1<2):=by omega
   have c2:(1:Int)≤(S.length:Int)+1:=by omega
   by_cases e1:c=118
   ·subst e1
    cases h:numOk S with
    | false =>
     have h1:numB S=none:=by simp[numB,h]
     have h2:majB (118::S)=none:=by simp[majB,h1]
     have h3:sufB (118::S)=0:=by simp[sufB,h1]
     rw[h] at hn
     simp (maxSteps:=mS) [-getElem?_pos,c0,c1,c2,hn,h2,h3,results155]
    | true =>
     have h1:numB S=some (valB S):=by simp[numB,h]
     rw[h] at hn
     simp only[numOk,allB,Bool.and_eq_true,decide_eq_true_eq] at h
     have ha:=qem S h.1.1.1 h.1.2 h.2
     have h3:sufB (118::S)=valB S:=by simp[sufB,h1]
     by_cases g:valB S<2
     ·have h2:majB (118::S)=none:=by simp[majB,h1,g]
      have g2:¬(2:Int)≤valB S:=by omega
      simp (maxSteps:=mS) [-getElem?_pos,c0,c1,c2,hn,ha,h2,h3,g,g2,results155]
     ·have h2:majB (118::S)=some (valB S):=by simp[majB,h1,g]
      have g2:(2:Int)≤valB S:=by omega
      have g3:2≤valB S:=by omega
      simp (maxSteps:=mS) [-getElem?_pos,c0,c1,c2,hn,ha,h2,h3,g,g2,g3,results155]
   ·have h2:majB (c::S)=none:=by simp[majB,e1]
    have h3:sufB (c::S)=0:=by simp[sufB,e1]
    simp (maxSteps:=mS) [-getElem?_pos,c0,c1,c2,e1,hn,h2,h3,results155]
theorem qhp (p:List UInt8) (hp:p.length≤2^30) (σ):ev 251 [.str p] σ=some (.tup [.str (splitMB p).1,.int .i64 (splitMB p).2],σ):=by
 have h1:=qjh p (by omega)
 refine qk func251 ntmps251 ?_
 cases hx:lix 47 p with
 | none =>
  have e1:lixI 47 p=-1:=by simp[lixI,hx]
  have e2:splitMB p=(p,0):=by simp[splitMB,hx]
  simp (maxSteps:=mS) [h1,e1,e2,results251]
 | some i =>
  have e1:lixI 47 p=i:=by simp[lixI,hx]
  have hi:=(qee hx).1
  obtain⟨q,hq⟩:∃q,p.drop (i+1)=q:=⟨_,rfl⟩
  have hql:q.length≤2^30:=by rw[← hq];simp;omega
  have w1:=wr1 i (by omega)
  have w2:i+1≤p.length:=by omega
  have w3:i≤p.length:=by omega
  have h2:=qia q hql
  cases hm:majB q with
  | none =>
   have e2:splitMB p=(p,0):=by simp[splitMB,hx,hq,hm]
   rw[hm] at h2
   simp (maxSteps:=mS) [h1,e1,e2,hq,w1,w2,w3,h2,results251]
  | some n =>
   have e2:splitMB p=(p.take i,n):=by simp[splitMB,hx,hq,hm]
   rw[hm,qyp hm] at h2
   simp (maxSteps:=mS) [h1,e1,e2,hq,w1,w2,w3,h2,results251]
end Go.Proofs.Tryz.Ai
end
section
namespace Go.Proofs.Tryz.Ai
open Go Go.AI Go.Proofs
theorem qmh (v p:List UInt8) (hv:v.length≤2^30) (hp:p.length≤2^30) (σ):ev 219 [.str v,.str p] σ=some (.bool (matchesB v p),σ):=by
 have h1:=qen v hv
 have h2:=qhp p hp
 obtain⟨⟨sm,n⟩,hk2⟩:∃x,splitMB p=x:=⟨_,rfl⟩
 rw[hk2] at h2
 refine qk func219 ntmps219 ?_
 cases e1:readB v with
 | none =>
  rw[e1] at h1
  have h4:matchesB v p=false:=by simp[matchesB,e1]
  simp (maxSteps:=mS) [h1,h2,h4,rpartsA,results219]
 | some x =>
  rw[e1] at h1
  have h4:matchesB v p=(decide (x.ma=n)||(decide (n=0)&&decide (x.ma=1))):=by simp[matchesB,e1,hk2]
  by_cases d1:x.ma=n
  ·simp (maxSteps:=mS) [h1,h2,h4,d1,rpartsA,results219]
  ·have d1':¬n=x.ma:=fun e=>d1 e.symm
   by_cases d2:n=0
   ·subst d2
    by_cases d3:x.ma=1
    ·simp (maxSteps:=mS) [h1,h2,h4,d3,rpartsA,results219]
    ·have d4:¬x.ma≤1:=by omega
     simp (maxSteps:=mS) [h1,h2,h4,d1,d1',d3,d4,rpartsA,results219]
   ·simp (maxSteps:=mS) [h1,h2,h4,d1,d1',d2,rpartsA,results219]
theorem qgx (v:List UInt8) (hv:v.length≤2^30) (σ):ev 159 [.str v] σ=some (.bool (readB v).isSome,σ):=by
 have h1:=qen v hv
 refine qk func159 ntmps159 ?_
 cases e1:readB v with
 | none=>rw[e1] at h1;simp (maxSteps:=mS) [h1,rpartsA,results159]
 | some x=>rw[e1] at h1;simp (maxSteps:=mS) [h1,rpartsA,results159]
def hostB (f:List UInt8):Bool:=!(f.any oddB)&&(decide (46∈f)&&!(decide (f.head? = some 45)))
theorem qu8 (c:UInt8) (r:List UInt8) (hl:(c::r).length≤2^31) (σ):ev 154 [.str (c::r)] σ=some (.bool (hostB (c::r)),σ):=by
 obtain⟨S,hS⟩:∃S,c::r=S:=⟨_,rfl⟩
 have g0:S[0]? = some c:=by rw[← hS];rfl
 have gh:S.head? = some c:=by rw[← hS];rfl
 rw[hS] at hl ⊢
 refine qk func154 ntmps154 ?_
 simp (maxSteps:=mS) (disch:=omega) [dT,dF,qh]
 refine qf (I:=fun i:Nat=>⟨[(0,.str S),(3,.bool (decide (46∈S.take i))),(4,.int .i64 i)],[],σ⟩) (Pr:=fun i=>i≤S.length∧∀x∈S.take i,(!(oddB x))=true) (μ:=fun i=>S.length-i) (a:=0) (by simp) (by simp) ?_
 rintro i ⟨hi,ha⟩
 by_cases hc:i<S.length
 ·obtain⟨x,hx⟩:∃x,S[i]=x:=⟨_,rfl⟩
  have hx2:S[i]? = some x:=by rw[← hx];exact List.getElem?_eq_getElem hc
  have q3:=qbg x
  have w6:=wr1 i (by omega)
  have ht:decide (46∈S.take (i+1))=(decide (46∈S.take i)||decide (x=46)):=by
   rw[List.take_succ_eq_append_getElem hc,hx];simp[eq_comm]
  have bad:oddB x=true→hostB S=false:=fun e=>by
   have:S.any oddB=true:=List.any_eq_true.2 ⟨x,hx▸List.getElem_mem hc,e⟩
   simp[hostB,this]
  obtain⟨bt,hbt⟩:∃b,decide (46∈S.take i)=b:=⟨_,rfl⟩
  by_cases d1:isU x=true
  ·have hf:=bad (by simp[oddB,d1])
   rw[d1] at q3
   simp (maxSteps:=mS) [-getElem?_pos,hc,hx2,q3,hf,results154]
  ·have q3':∀σ,ev 217 [.int .u8 x.toNat] σ=some (.bool false,σ):=by simpa[d1] using q3
   by_cases d2:x=95
   ·have hf:=bad (by simp[oddB,d2])
    subst d2
    have q4:∀σ,ev 217 [.int .u8 95] σ=some (.bool false,σ):=q3'
    simp (maxSteps:=mS) [-getElem?_pos,hc,hx2,q4,hf,results154]
   ·by_cases d3:x=126
    ·have hf:=bad (by simp[oddB,d3])
     subst d3
     have q4:∀σ,ev 217 [.int .u8 126] σ=some (.bool false,σ):=q3'
     simp (maxSteps:=mS) [-getElem?_pos,hc,hx2,q4,hf,results154]
    ·have ho:(!(oddB x))=true:=by simp[oddB,d1,d2,d3]
     have hn0:=take_all hc ha (by rw[hx];exact ho)
     have hn:∀y∈S.take (i+1),oddB y=false:=fun y hy=>by simpa using hn0 y hy
     rw[hbt] at ht
     rw[hbt]
     by_cases d4:x=46
     ·subst d4
      have q4:∀σ,ev 217 [.int .u8 46] σ=some (.bool false,σ):=q3'
      have ht2:decide (46∈S.take (i+1))=true:=by rw[ht];simp
      cases bt
      ·simp (maxSteps:=mS) [-getElem?_pos,hc,hx2,q4,w6]
       refine⟨i+1,⟨by omega,hn⟩,by omega,?_⟩
       simpa using ht2
      ·simp (maxSteps:=mS) [-getElem?_pos,hc,hx2,q4,w6]
       refine⟨i+1,⟨by omega,hn⟩,by omega,?_⟩
       simpa using ht2
     ·have ht2:decide (46∈S.take (i+1))=bt:=by rw[ht];simp[d4]
      cases bt
      ·simp (maxSteps:=mS) [-getElem?_pos,hc,hx2,q3',d2,d3,d4,w6]
       refine⟨i+1,⟨by omega,hn⟩,by omega,?_⟩
       simpa using ht2
      ·simp (maxSteps:=mS) [-getElem?_pos,hc,hx2,q3',d2,d3,d4,w6]
       refine⟨i+1,⟨by omega,hn⟩,by omega,?_⟩
       simpa using ht2
 ·have hi':i=S.length:=by omega
  subst hi'
  rw[List.take_length] at ha ⊢
  have hA:S.any oddB=false:=by rw[Bool.eq_false_iff];intro h;obtain⟨x,hx,h2⟩:=List.any_eq_true.1 h;have:=ha x hx;rw[h2] at this;cases this
  have hB:hostB S=(decide (46∈S)&&!(decide (c=45))):=by simp[hostB,hA,gh]
  obtain⟨bt,hbt⟩:∃b,decide (46∈S)=b:=⟨_,rfl⟩
  rw[hbt] at hB ⊢
  by_cases e3:c=45
  ·subst e3
   cases bt
   ·simp (maxSteps:=mS) [-getElem?_pos,g0,hB,results154]
   ·simp (maxSteps:=mS) [-getElem?_pos,g0,hB,results154]
  ·cases bt
   ·simp (maxSteps:=mS) [-getElem?_pos,g0,e3,hB,results154]
   ·simp (maxSteps:=mS) [-getElem?_pos,g0,e3,hB,results154]
end Go.Proofs.Tryz.Ai
end
