/- Part 20 of a proof: Go functions are evaluated on abstract values; no conditions beyond those of each theorem. -/
import Derived.Test.YtjkkcelnfokplaaGreatDoorFi19
set_option linter.all false
set_option maxHeartbeats 16000000
set_option maxRecDepth 4000
section
namespace Go.Proofs.Tryz.Ai
open Go Go.AI Go.Proofs
theorem qkv (a b:List UInt8) (σ):ev 200 [.str a,.str b] σ=some (.int .i64 (bytesC a b),σ):=by
 refine qk func200 ntmps200 ?_
 have h1:=Go.AI.bytesLess_eq a b
 have ht:=TO.bytes
 rcases ht.sgn a b with h|h|h
 ·have hb:Op.bytesLess a b=true:=by rw[h1,h];rfl
  simp (maxSteps:=mS) [hb,h,results200]
 ·have hab:=ht.eq _ _ h
  have hb:Op.bytesLess a b=false:=by rw[h1,h];rfl
  rw[h]
  subst hab
  simp (maxSteps:=mS) [hb,results200]
 ·have hb:Op.bytesLess a b=false:=by rw[h1,h];rfl
  have hab:(a==b)=false:=by
   rw[beq_eq_false_iff_ne];intro e;subst e
   rw[ht.refl] at h;cases h
  have hab2:¬a=b:=by simpa using hab
  simp (maxSteps:=mS) [hb,hab,hab2,h,results200]
theorem qby (a b:Nat) (σ):ev 201 [.int .i64 a,.int .i64 b] σ=some (.int .i64 (natC a b),σ):=by
 refine qk func201 ntmps201 ?_
 unfold natC
 by_cases h:a<b
 ·simp (maxSteps:=mS) [h,results201]
 ·by_cases h2:b<a
  ·simp (maxSteps:=mS) [h,h2,results201]
  ·simp (maxSteps:=mS) [h,h2,results201]
theorem qym (a b:List UInt8) (ha:a.length≤2^30) (hb:b.length≤2^30) (σ):ev 203 [.str a,.str b] σ=some (.int .i64 (idC a b),σ):=by
 have h1:=qcg a (by omega)
 have h2:=qcg b (by omega)
 have h3:=qkv a b
 have h4:=qby a.length b.length
 refine qk func203 ntmps203 ?_
 have hI:idC a b=if allB isD a=true then (if allB isD b=true then orI (natC a.length b.length) (bytesC a b) else -1) else if allB isD b=true then 1 else bytesC a b:=rfl
 cases e1:allB isD a<;>cases e2:allB isD b<;>rw[e1] at h1 hI<;>rw[e2] at h2 hI
 ·simp at hI
  simp (maxSteps:=mS) [h1,h2,h3,hI,results203]
 ·simp at hI
  simp (maxSteps:=mS) [h1,h2,hI,results203]
 ·simp at hI
  simp (maxSteps:=mS) [h1,h2,hI,results203]
 ·simp only[if_true] at hI
  by_cases hl:a.length=b.length
  ·have:orI (natC a.length b.length) (bytesC a b)=bytesC a b:=by rw[hl];simp[orI,natC]
   rw[this] at hI
   simp (maxSteps:=mS) [h1,h2,h3,hl,hI,results203]
  ·have:orI (natC a.length b.length) (bytesC a b)=natC a.length b.length:=by
    unfold orI natC;rcases Nat.lt_or_ge a.length b.length with q|q
    ·simp[q]
    ·have q2:b.length<a.length:=by omega
     have q3:¬a.length<b.length:=by omega
     simp[q3,q2]
   rw[this] at hI
   simp (maxSteps:=mS) [h1,h2,h4,hl,hI,results203]
theorem qmc {a b:Nat} (h:¬a=b) (y:Int):orI (natC a b) y=natC a b:=by
 have:¬natC a b=0:=by
  unfold natC
  by_cases q:a<b
  ·simp[q]
  ·have:b<a:=by omega
   simp[q,this]
 unfold orI;rw[if_neg this]
theorem qgv {a:Nat} (y:Int):orI (natC a a) y=y:=by
 have:natC a a=0:=by simp[natC]
 unfold orI;rw[if_pos this]
theorem qjc (b:Bool) (σ):ev 202 [.bool b] σ=some (.int .i64 (if b then 0 else 1),σ):=by
 refine qk func202 ntmps202 ?_
 cases b<;>simp (maxSteps:=mS) [results202]
theorem qcr (a b:List UInt8) (ha:a.length≤2^30) (hb:b.length≤2^30) (σ):ev 131 [.str a,.str b] σ=some (.int .i64 (cmpB a b),σ):=by
 have pa:=qen a ha
 have pb:=qen b hb
 have ht:=qkv a b
 have w0:IntKind.i64.wrap (-1)=-1:=by decide
 refine qk func131 ntmps131 ?_
 cases e1:readB a with
 | none =>
  rw[e1] at pa
  cases e2:readB b with
  | none =>
   rw[e2] at pb
   have hC:cmpB a b=bytesC a b:=by unfold cmpB;rw[e1,e2]
   simp (maxSteps:=mS) [pa,pb,rpartsA,ht,hC,results131]
  | some y =>
   rw[e2] at pb
   have hC:cmpB a b=-1:=by unfold cmpB;rw[e1,e2]
   simp (maxSteps:=mS) [pa,pb,rpartsA,hC,results131]
 | some x =>
  rw[e1] at pa
  cases e2:readB b with
  | none =>
   rw[e2] at pb
   have hC:cmpB a b=1:=by unfold cmpB;rw[e1,e2]
   simp (maxSteps:=mS) [pa,pb,rpartsA,hC,results131]
  | some y =>
   rw[e2] at pb
   have hC:cmpB a b=orI (natC x.ma y.ma) (orI (natC x.mi y.mi) (orI (natC x.pa y.pa) (presC x.pre y.pre))):=by unfold cmpB;rw[e1,e2];rfl
   by_cases g1:x.ma=y.ma
   ·rw[g1,qgv] at hC
    by_cases g2:x.mi=y.mi
    ·rw[g2,qgv] at hC
     by_cases g3:x.pa=y.pa
     ·rw[g3,qgv] at hC
      have hpl:x.pre.length≤60∧y.pre.length≤60:=by
       have rx:=qbp e1
       have ry:=qbp e2
       have:=congrArg List.length rx.text
       have:=congrArg List.length ry.text
       have:=rx.len
       have:=ry.len
       unfold verT at *
       constructor
       ·split at*<;> split at*<;> simp_all<;>omega
       ·split at*<;> split at*<;> simp_all<;>omega
      simp only[rpartsA] at pa pb
      generalize x.pre=p at *
      generalize y.pre=q at *
      by_cases g4:p=[]∨q=[]
      ·have ho:=qby q.length p.length
       cases p with
       | nil =>
        cases q with
        | nil =>
         have hC:cmpB a b=0:=by rw[hC];simp[presC,natC]
         have s1:∀σ,ev 202 [.bool true] σ=some (.int .i64 0,σ):=qjc true
         have s2:IntKind.i64.wrap 0=0:=by decide
         have ho':∀σ,ev 201 [.int .i64 0,.int .i64 0] σ=some (.int .i64 0,σ):=ho
         simp (maxSteps:=mS) [pa,pb,g1,g2,g3,hC,ho',s1,s2,results131]
        | cons c q =>
         have hC:cmpB a b=1:=by rw[hC];simp[presC,natC]
         have s1:∀σ,ev 202 [.bool false] σ=some (.int .i64 1,σ):=qjc false
         have s2:IntKind.i64.wrap 1=1:=by decide
         have ho':∀σ,ev 201 [.int .i64 ((q.length:Int)+1),.int .i64 0] σ=some (.int .i64 1,σ):=ho
         simp (maxSteps:=mS) [pa,pb,g1,g2,g3,hC,ho',s1,s2,results131]
       | cons c p =>
        have hq:q=[]:=by simpa using g4
        subst hq
        have hC:cmpB a b=-1:=by rw[hC];simp[presC,natC]
        have s1:∀σ,ev 202 [.bool false] σ=some (.int .i64 1,σ):=qjc false
        have s2:IntKind.i64.wrap (-1)=-1:=by decide
        have ho':∀σ,ev 201 [.int .i64 0,.int .i64 ((p.length:Int)+1)] σ=some (.int .i64 (-1),σ):=ho
        simp (maxSteps:=mS) [pa,pb,g1,g2,g3,hC,ho',s1,s2,results131]
      ·have g5:¬p=[]:=fun e=>g4 (.inl e)
       have g6:¬q=[]:=fun e=>g4 (.inr e)
       have g5':p.isEmpty=false:=by simpa using g5
       have g6':q.isEmpty=false:=by simpa using g6
       have hC:cmpB a b=lexC idC (splitB 46 p) (splitB 46 q):=by rw[hC];unfold presC;rw[if_neg g4]
       have hc1:=qku p (by omega) 46
       have hc2:=qku q (by omega) 46
       have hc1':∀σ,ev 36 [.str p,.int .u8 46] σ=some (.sl (.ex 9 1) ((splitB 46 p).map .str),σ):=hc1
       have hc2':∀σ,ev 36 [.str q,.int .u8 46] σ=some (.sl (.ex 9 1) ((splitB 46 q).map .str),σ):=hc2
       have hlp:∀s∈splitB 46 p,s.length≤60:=fun s hs=>by have:=qay hs;omega
       have hlq:∀s∈splitB 46 q,s.length≤60:=fun s hs=>by have:=qay hs;omega
       have hnp:(splitB 46 p).length≤61:=by have:=qaq 46 p;omega
       have hnq:(splitB 46 q).length≤61:=by have:=qaq 46 q;omega
       generalize splitB 46 p=l at *
       generalize splitB 46 q=m at *
       simp (maxSteps:=mS) [pa,pb,g1,g2,g3,g5,g6,g5',g6',hc1',hc2']
       refine qf (I:=fun i:Nat=>⟨[(15,.sl (.ex 9 1) (l.map .str)),(16,.sl (.ex 9 1) (m.map .str)),(17,.int .i64 i)],[],σ⟩) (Pr:=fun i=>i≤l.length∧i≤m.length∧lexC idC l m=lexC idC (l.drop i) (m.drop i)) (μ:=fun i=>l.length-i) (a:=0) (by simp) (by simp) ?_
       rintro i ⟨i1,i2,i3⟩
       by_cases k1:i<l.length
       ·by_cases k2:i<m.length
        ·obtain⟨x',hx⟩:∃z,l[i]? = some z:=⟨_,List.getElem?_eq_getElem k1⟩
         obtain⟨y',hy⟩:∃z,m[i]? = some z:=⟨_,List.getElem?_eq_getElem k2⟩
         have hdl:l.drop i=x'::l.drop (i+1):=by rw[List.drop_eq_getElem_cons k1];congr 1;exact (List.getElem?_eq_some_iff.1 hx).2
         have hdm:m.drop i=y'::m.drop (i+1):=by rw[List.drop_eq_getElem_cons k2];congr 1;exact (List.getElem?_eq_some_iff.1 hy).2
         have hi:=qym x' y' (by have:=hlp x' (List.mem_of_getElem? hx);omega) (by have:=hlq y' (List.mem_of_getElem? hy);omega)
         have w1:=wr1 i (by omega)
         rw[hdl,hdm,lexC] at i3
         by_cases hz:idC x' y'=0
         ·rw[hz] at i3
          simp only[orI,if_true] at i3
          simp (maxSteps:=mS) [-getElem?_pos,k1,k2,hx,hy,hi,hz,w1]
          exact⟨i+1,⟨by omega,by omega,i3⟩,by omega,by omega⟩
         ·simp only[orI,if_neg hz] at i3
          simp (maxSteps:=mS) [-getElem?_pos,k1,k2,hx,hy,hi,hz,hC,i3,results131]
        ·have ho:=qby l.length m.length
         have e3:lexC idC l m=natC l.length m.length:=by
          rw[i3,List.drop_of_length_le (show m.length≤i by omega),List.drop_eq_getElem_cons k1]
          have:m.length<l.length:=by omega
          simp[lexC,natC];omega
         simp (maxSteps:=mS) [k1,k2,ho,hC,e3,results131]
       ·have ho:=qby l.length m.length
        have e3:lexC idC l m=natC l.length m.length:=by
         rw[i3,List.drop_of_length_le (show l.length≤i by omega)]
         by_cases k2:i<m.length
         ·rw[List.drop_eq_getElem_cons k2]
          have:l.length<m.length:=by omega
          simp[lexC,natC];omega
         ·rw[List.drop_of_length_le (show m.length≤i by omega)]
          have:l.length=m.length:=by omega
          simp[lexC,natC,this]
        simp (maxSteps:=mS) [k1,ho,hC,e3,results131]
     ·rw[qmc g3] at hC
      have ho:=qby x.pa y.pa
      simp (maxSteps:=mS) [pa,pb,rpartsA,g1,g2,g3,hC,ho,results131]
    ·rw[qmc g2] at hC
     have ho:=qby x.mi y.mi
     simp (maxSteps:=mS) [pa,pb,rpartsA,g1,g2,hC,ho,results131]
   ·rw[qmc g1] at hC
    have ho:=qby x.ma y.ma
    simp (maxSteps:=mS) [pa,pb,rpartsA,g1,hC,ho,results131]
end Go.Proofs.Tryz.Ai
end
