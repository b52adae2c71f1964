/- Part 17 of a proof: Go functions are evaluated on abstract values; no conditions beyond those of each theorem. -/
import Derived.Test.YtjkkcelnfokplaaGreatDoorFi16
set_option linter.all false
set_option maxHeartbeats 16000000
set_option maxRecDepth 4000
section
namespace Go.AI
theorem qgu {x:Option (Ex×St)} {K1 K:Ex→St→Prop} (h:Post x K1) (k:∀e s,K1 e s→K e s):Post x K:=by
 obtain⟨e,s,h1,h2⟩:=h;exact⟨e,s,h1,k e s h2⟩
end Go.AI
namespace Go.Proofs.Tryz.Ai
open Go Go.AI Go.Proofs
theorem qcg (s:List UInt8) (hl:s.length≤2^31) (σ):ev 156 [.str s] σ=some (.bool (allB isD s),σ):=by
 have hp:=fun c σ=>qbf c σ
 refine q9 rfl Tryz.func156 rfl (by simp[Tryz.ntmps156]) (by kernel_rfl) (by kernel_rfl) ?_
 unfold allB
 simp (maxSteps:=4000000) (disch:=omega) [dT,dF,qh]
 refine qf (I:=fun i:Nat=>⟨[(0,.str s),(3,.int .i64 i)],[],σ⟩) (Pr:=fun i=>i≤s.length∧∀x∈s.take i,isD x=true) (μ:=fun i=>s.length-i) (a:=0) (by simp) (by simp) ?_
 rintro i ⟨hi,hn⟩
 by_cases hc:i<s.length
 ·by_cases hq:isD s[i]=true
  ·simp (maxSteps:=4000000) (disch:=omega) [dT,dF,qh,hc,hp,hq]
   refine⟨i+1,⟨by omega,?_⟩,by omega,by simp⟩
   exact take_all hc hn hq
  ·have hq':isD s[i]=false:=by simpa using hq
   have h2:s.all isD=false:=by
    rw[Bool.eq_false_iff];intro h;exact hq (List.all_eq_true.1 h _ (List.getElem_mem hc))
   simp (maxSteps:=4000000) (disch:=omega) [dT,dF,qh,hc,hp,hq',h2,Tryz.results156]
 ·have hi':i=s.length:=by omega
  subst hi'
  rw[List.take_length] at hn
  have h2:s.all isD=true:=List.all_eq_true.2 hn
  cases s with
  | nil=>simp (maxSteps:=4000000) (disch:=omega) [dT,dF,qh,Tryz.results156]
  | cons a r=>simp (maxSteps:=4000000) (disch:=omega) [dT,dF,qh,hc,h2,Tryz.results156]
theorem qdu (s:List UInt8) (hl:s.length≤2^31) (σ):ev 218 [.str s] σ=some (.bool (numOk s),σ):=by
 have hd:=qcg s hl
 refine q9 rfl Tryz.func218 rfl (by simp[Tryz.ntmps218]) (by kernel_rfl) (by kernel_rfl) ?_
 by_cases h1:allB isD s=true
 ·obtain⟨c,r,hcr⟩:∃c r,s=c::r:=by cases s with
   | nil=>simp[allB] at h1
   | cons c r=>exact⟨c,r,rfl⟩
  by_cases h2:s.length≤9
  ·have g0:s[0]? = some c:=by rw[hcr];rfl
   have h4:numOk s=plainB s:=by simp[numOk,h1,h2]
   by_cases h3:s=[48]
   ·subst h3
    simp (maxSteps:=4000000) [hd,h1,numOk,plainB,Tryz.results218]
   ·have h3':(s==[48])=false:=by simpa using h3
    by_cases h5:c=48
    ·have h6:plainB s=false:=by
      rw[hcr,h5];simp[plainB];rintro rfl;exact h3 (by rw[hcr,h5])
     subst h5
     simp (maxSteps:=4000000) [-getElem?_pos,hd,h1,h2,h3',g0,h4,h6,Tryz.results218]
    ·have h6:plainB s=true:=by rw[hcr];simp[plainB,h5]
     simp (maxSteps:=4000000) [-getElem?_pos,hd,h1,h2,h3',g0,h5,h4,h6,Tryz.results218]
  ·have h4:numOk s=false:=by simp[numOk,h2]
   simp (maxSteps:=4000000) [hd,h1,h2,h4,Tryz.results218]
 ·have h4:numOk s=false:=by simp[numOk,h1]
  simp (maxSteps:=4000000) [hd,h1,h4,Tryz.results218]
theorem qho (s:List UInt8) (hl:s.length≤2^31) (σ):ev 243 [.str s] σ=some (.bool (idB s),σ):=by
 have hd:=qcg s hl
 refine q9 rfl Tryz.func243 rfl (by simp[Tryz.ntmps243]) (by kernel_rfl) (by kernel_rfl) ?_
 simp (maxSteps:=4000000) (disch:=omega) [dT,dF,qh]
 refine qf (I:=fun i:Nat=>⟨[(0,.str s),(3,.int .i64 i)],[],σ⟩) (Pr:=fun i=>i≤s.length∧∀x∈s.take i,wordB [45] x=true) (μ:=fun i=>s.length-i) (a:=0) (by simp) (by simp) ?_
 rintro i ⟨hi,hn⟩
 by_cases hc:i<s.length
 ·obtain⟨c,hcx⟩:∃c,s[i]=c:=⟨_,rfl⟩
  have hx:s[i]? = some c:=by rw[← hcx];exact List.getElem?_eq_getElem hc
  have e0:IntKind.i64.wrap ((i:Int)+1)=(i:Int)+1:=qh (by omega)
  have q1:=qbf c
  have q2:=qbx c
  have q3:=qbg c
  have go:wordB [45] c=true→∀x∈s.take (i+1),wordB [45] x=true:=fun h=>take_all hc hn (by rw[hcx];exact h)
  by_cases d1:isD c=true
  ·simp (maxSteps:=4000000) [-getElem?_pos,hc,hx,q1,d1,e0]
   exact⟨i+1,⟨by omega,go (by simp[wordB,d1])⟩,by omega,by simp⟩
  ·by_cases d2:isL c=true
   ·simp (maxSteps:=4000000) [-getElem?_pos,hc,hx,q1,q2,d1,d2,e0]
    exact⟨i+1,⟨by omega,go (by simp[wordB,d2])⟩,by omega,by simp⟩
   ·by_cases d3:isU c=true
    ·simp (maxSteps:=4000000) [-getElem?_pos,hc,hx,q1,q2,q3,d1,d2,d3,e0]
     exact⟨i+1,⟨by omega,go (by simp[wordB,d3])⟩,by omega,by simp⟩
    ·by_cases d4:c=45
     ·have z:=go (by simp[wordB,d4])
      subst d4
      have q1':∀σ,ev 215 [.int .u8 45] σ=some (.bool false,σ):=fun σ=>qbf 45 σ
      have q2':∀σ,ev 216 [.int .u8 45] σ=some (.bool false,σ):=fun σ=>qbx 45 σ
      have q3':∀σ,ev 217 [.int .u8 45] σ=some (.bool false,σ):=fun σ=>qbg 45 σ
      simp (maxSteps:=4000000) [-getElem?_pos,hc,hx,q1',q2',q3',e0]
      exact⟨i+1,⟨by omega,z⟩,by omega,by simp⟩
     ·have hf:idB s=false:=by
       have:s.all (wordB [45])=false:=by
        rw[Bool.eq_false_iff];intro h
        have:=List.all_eq_true.1 h _ (List.getElem_mem hc)
        rw[hcx] at this
        simp[wordB,d1,d2,d3,d4] at this
       simp[idB,allB,this]
      simp (maxSteps:=4000000) [-getElem?_pos,hc,hx,q1,q2,q3,d1,d2,d3,d4,hf,Tryz.results243]
 ·have hi':i=s.length:=by omega
  subst hi'
  rw[List.take_length] at hn
  have h2:s.all (wordB [45])=true:=List.all_eq_true.2 hn
  cases s with
  | nil=>simp (maxSteps:=4000000) [idB,allB,Tryz.results243]
  | cons c r =>
   have h3:idB (c::r)=!(allB isD (c::r)&&!plainB (c::r)):=by simp[idB,allB,h2]
   by_cases d1:allB isD (c::r)=true
   ·by_cases d2:c::r=[48]
    ·injection d2 with d2 d3
     subst d2 d3
     simp (maxSteps:=4000000) [hd,d1,h3,plainB,Tryz.results243]
    ·by_cases d3:c=48
     ·subst d3
      have d4:¬r=[]:=fun e=>d2 (by rw[e])
      have h6:plainB (48::r)=false:=by simp[plainB,d4]
      have d5:r.isEmpty=false:=by simpa using d4
      simp (maxSteps:=4000000) [hd,d1,d4,d5,h3,h6,Tryz.results243]
     ·have h6:plainB (c::r)=true:=by simp[plainB,d3]
      simp (maxSteps:=4000000) [hd,d1,d3,h3,h6,Tryz.results243]
   ·simp (maxSteps:=4000000) [hd,d1,h3,Tryz.results243]
end Go.Proofs.Tryz.Ai
end
