/- Part 22 of a proof: Go functions are evaluated on abstract values; no conditions beyond those of each theorem. -/
import Derived.Test.YtjkkcelnfokplaaGreatDoorFi19
import Derived.Test.YtjkkcelnfokplaaGreatDoorFi21
set_option linter.all false
set_option maxHeartbeats 16000000
set_option maxRecDepth 4000
section
namespace Go.Proofs.Tryz.Ai
open Go Go.AI Go.Proofs
theorem qjh (s:List UInt8) (hl:s.length≤2^31) (σ):ev 273 [.str s] σ=some (.int .i64 (lixI 47 s),σ):=by
 refine qk func273 ntmps273 ?_
 simp (maxSteps:=mS) (disch:=omega) [dT,dF,qh]
 refine qf (I:=fun k:Nat=>⟨[(0,.str s),(3,.int .i64 ((k:Int)-1))],[],σ⟩) (Pr:=fun k=>k≤s.length∧lix 47 (s.take k)=lix 47 s) (μ:=fun k=>k) (a:=s.length) (by simp) (by simp) ?_
 rintro k ⟨hk,hq⟩
 cases k with
 | zero =>
  have e1:lixI 47 s=-1:=by unfold lixI;rw[← hq];rfl
  simp (maxSteps:=mS) [e1,results273]
 | succ i =>
  have hc:i<s.length:=by omega
  have e0:(((i+1:Nat):Int)-1)=(i:Int):=by omega
  have e2:IntKind.i64.wrap ((i:Int)-1)=(i:Int)-1:=qh (by omega)
  obtain⟨x,hcx⟩:∃x,s[i]=x:=⟨_,rfl⟩
  have hx:s[i]? = some x:=by rw[← hcx];exact List.getElem?_eq_getElem hc
  rw[List.take_succ_eq_append_getElem hc,quk,hcx] at hq
  simp only[e0]
  by_cases hcc:x=47
  ·rw[if_pos hcc] at hq
   have e1:lixI 47 s=i:=by unfold lixI;rw[← hq];simp;omega
   subst hcc
   simp (maxSteps:=mS) [-getElem?_pos,hc,hx,e1,results273]
  ·rw[if_neg hcc] at hq
   simp (maxSteps:=mS) [-getElem?_pos,hc,hx,hcc,e2]
   exact⟨by omega,hq⟩
theorem qmg (s o:List UInt8) (more:UInt8) (ho:∀c:UInt8,decide (c∈o)=(c==45||(c==46||(c==95||(c==126||c==more))))) (hl:s.length≤2^31) (σ) :
  ev 153 [.str s,.int .u8 more.toNat] σ=some (.bool (elemB o s),σ):=by
 refine qk func153 ntmps153 ?_
 cases s with
 | nil=>simp (maxSteps:=mS) [elemB,allB,results153]
 | cons c r =>
  obtain⟨d,hd⟩:∃d,(c::r)[r.length]? = some d:=⟨_,List.getElem?_eq_getElem (by simp)⟩
  have hlast:(c::r).getLast? = some d:=by rw[List.getLast?_eq_getElem?];simpa using hd
  have w7:IntKind.i64.wrap ((r.length:Int)+1-1)=(r.length:Int):=by rw[qh (by simp at hl;omega)];omega
  have w8:IntKind.i64.wrap (r.length:Int)=(r.length:Int):=qh (by simp at hl;omega)
  by_cases e1:c=46
  ·have hf:elemB o (c::r)=false:=by simp[elemB,e1]
   subst e1
   simp (maxSteps:=mS) [hf,results153]
  ·by_cases e2:d=46
   ·have hf:elemB o (c::r)=false:=by simp[elemB,hlast,e2]
    subst e2
    simp (maxSteps:=mS) [-getElem?_pos,e1,w7,w8,hd,hf,results153]
   ·have he:elemB o (c::r)=(c::r).all (wordB o):=by simp[elemB,allB,hlast,e1,e2]
    rw[he]
    obtain⟨S,hS⟩:∃S,c::r=S:=⟨_,rfl⟩
    have hSl:(r.length:Int)+1=S.length:=by rw[← hS];simp
    have g0:S[0]? = some c:=by rw[← hS];rfl
    have gE:S.isEmpty=false:=by rw[← hS];rfl
    rw[hS] at hd hl ⊢
    have w9:IntKind.i64.wrap ((S.length:Int)-1)=(r.length:Int):=by rw[qh (by omega)];omega
    simp (maxSteps:=mS) [-getElem?_pos,g0,gE,e1,w9,hd,e2]
    refine qf (I:=fun i:Nat=>⟨[(0,.str S),(1,.int .u8 more.toNat),(5,.int .i64 i)],[],σ⟩) (Pr:=fun i=>i≤S.length∧∀x∈S.take i,wordB o x=true) (μ:=fun i=>S.length-i) (a:=0) (by simp) (by simp) ?_
    rintro i ⟨hi,hn⟩
    by_cases hc:i<S.length
    ·obtain⟨x,hcx⟩:∃x,S[i]=x:=⟨_,rfl⟩
     have hx:S[i]? = some x:=by rw[← hcx];exact List.getElem?_eq_getElem hc
     have e0:=wr1 i (by omega)
     have q1:=qbf x
     have q2:=qbx x
     have q3:=qbg x
     have hox:=ho x
     have go:wordB o x=true→∀y∈S.take (i+1),wordB o y=true:=fun h=>take_all hc hn (by rw[hcx];exact h)
     have fin:wordB o x=true→∃a:Nat,(a≤S.length∧∀(y:UInt8),y∈List.take a S→wordB o y=true)∧S.length-a<S.length-i∧(i:Int)+1=(a:Int):=fun h=>⟨i+1,⟨by omega,go h⟩,by omega,by simp⟩
     by_cases d1:isD x=true
     ·simp (maxSteps:=mS) [-getElem?_pos,hc,hx,q1,d1,e0];exact fin (by simp[wordB,d1])
     ·by_cases d2:isL x=true
      ·simp (maxSteps:=mS) [-getElem?_pos,hc,hx,q1,q2,d1,d2,e0];exact fin (by simp[wordB,d2])
      ·by_cases d3:isU x=true
       ·simp (maxSteps:=mS) [-getElem?_pos,hc,hx,q1,q2,q3,d1,d2,d3,e0];exact fin (by simp[wordB,d3])
       ·have q1':∀σ,ev 215 [.int .u8 x.toNat] σ=some (.bool false,σ):=by simpa[d1] using q1
        have q2':∀σ,ev 216 [.int .u8 x.toNat] σ=some (.bool false,σ):=by simpa[d2] using q2
        have q3':∀σ,ev 217 [.int .u8 x.toNat] σ=some (.bool false,σ):=by simpa[d3] using q3
        have key:∀b,decide (x∈o)=b→wordB o x=b:=fun b h=>by simp only[wordB,d1,d2,d3,Bool.false_or,h]
        by_cases f1:x=45
        ·have hw:=fin (key true (by rw[hox,f1];simp))
         subst f1
         have Q1:∀σ,ev 215 [.int .u8 45] σ=some (.bool false,σ):=fun σ=>qbf 45 σ
         have Q2:∀σ,ev 216 [.int .u8 45] σ=some (.bool false,σ):=fun σ=>qbx 45 σ
         have Q3:∀σ,ev 217 [.int .u8 45] σ=some (.bool false,σ):=fun σ=>qbg 45 σ
         simp (maxSteps:=mS) [-getElem?_pos,hc,hx,Q1,Q2,Q3,e0];exact hw
        by_cases f2:x=46
        ·have hw:=fin (key true (by rw[hox,f2];simp))
         subst f2
         have Q1:∀σ,ev 215 [.int .u8 46] σ=some (.bool false,σ):=fun σ=>qbf 46 σ
         have Q2:∀σ,ev 216 [.int .u8 46] σ=some (.bool false,σ):=fun σ=>qbx 46 σ
         have Q3:∀σ,ev 217 [.int .u8 46] σ=some (.bool false,σ):=fun σ=>qbg 46 σ
         simp (maxSteps:=mS) [-getElem?_pos,hc,hx,Q1,Q2,Q3,e0];exact hw
        by_cases f3:x=95
        ·have hw:=fin (key true (by rw[hox,f3];simp))
         subst f3
         have Q1:∀σ,ev 215 [.int .u8 95] σ=some (.bool false,σ):=fun σ=>qbf 95 σ
         have Q2:∀σ,ev 216 [.int .u8 95] σ=some (.bool false,σ):=fun σ=>qbx 95 σ
         have Q3:∀σ,ev 217 [.int .u8 95] σ=some (.bool false,σ):=fun σ=>qbg 95 σ
         simp (maxSteps:=mS) [-getElem?_pos,hc,hx,Q1,Q2,Q3,e0];exact hw
        by_cases f4:x=126
        ·have hw:=fin (key true (by rw[hox,f4];simp))
         subst f4
         have Q1:∀σ,ev 215 [.int .u8 126] σ=some (.bool false,σ):=fun σ=>qbf 126 σ
         have Q2:∀σ,ev 216 [.int .u8 126] σ=some (.bool false,σ):=fun σ=>qbx 126 σ
         have Q3:∀σ,ev 217 [.int .u8 126] σ=some (.bool false,σ):=fun σ=>qbg 126 σ
         simp (maxSteps:=mS) [-getElem?_pos,hc,hx,Q1,Q2,Q3,e0];exact hw
        by_cases f5:x=more
        ·subst f5
         have hw:=fin (key true (by rw[hox];simp))
         simp (maxSteps:=mS) [-getElem?_pos,hc,hx,q1',q2',q3',f1,f2,f3,f4,e0];exact hw
        have hf:wordB o x=false:=key false (by rw[hox];simp[f1,f2,f3,f4,f5])
        have hA:S.all (wordB o)=false:=by
         rw[Bool.eq_false_iff];intro h
         have:=List.all_eq_true.1 h _ (List.getElem_mem hc)
         rw[hcx,hf] at this;cases this
        simp (maxSteps:=mS) [-getElem?_pos,hc,hx,q1',q2',q3',f1,f2,f3,f4,f5,hA,results153]
    ·have hi':i=S.length:=by omega
     subst hi'
     rw[List.take_length] at hn
     have ht:S.all (wordB o)=true:=List.all_eq_true.2 hn
     simp (maxSteps:=mS) [hc,ht,results153]
end Go.Proofs.Tryz.Ai
end
