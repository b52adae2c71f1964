/- Part 11 of a proof: Go functions are evaluated on abstract values; no conditions beyond those of each theorem. -/
import Derived.Test.YtjkkcelnfokplaaGreatDoorFi10
set_option linter.all false
set_option maxHeartbeats 16000000
set_option maxRecDepth 4000
section
namespace Go.Proofs.Tryz.Ai
open Go Go.AI Go.Proofs
theorem qot {κ:K}:∀{EE:κ.d.α→List AV} {ty sz:Nat} (kk:KOk κ EE ty sz) (b:Nat) (σ:List (List AV)) (pre U V post:List κ.d.α) (g N a m e:Nat) (hN:N≤2^30) (hNe:N=pre.length+(U.length+(V.length+post.length))) (ha:a=pre.length) (hm:m=a+U.length) (he:e=m+V.length) (hU:0<U.length) (hV:0<V.length) (hb:b<σ.length),
  ev κ.d.fR [.ms ty sz b 0 N,.int .i64 a,.int .i64 m,.int .i64 e,.fn g []] (σ.set b (rowE EE (pre++(U++(V++post)))))=some (.tup [],σ.set b (rowE EE (pre++(V++(U++post))))):=by
 cases κ
 all_goals
  dsimp only[K.d]
  intro EE ty sz kk b σ pre U V post g N a m e hN hNe ha hm he hU hV hb
  have qs:=@qi9 _ _ _ _ kk
  have eg:=K.get kk
  have eb:=K.bnd kk
  have es:=K.set kk
  have ed:=K.dem kk
  have lo:=K.low kk
  obtain⟨hE,hty,hsz⟩:=kk
  dsimp only[K.d] at qs eg eb es ed lo hE hty hsz
  simp only[hty,hsz] at qs
 refine qk func237 ntmps237 ?_
 rotate_left
 refine qk func242 ntmps242 ?_
 rotate_left
 refine qk func238 ntmps238 ?_
 rotate_left
 refine qk func275 ntmps275 ?_
 rotate_left
 all_goals
  simp only[esQ,esT,esP,esM] at hE
  simp only[hE,List.cons_append,List.nil_append] at eg es
  have w0:IntKind.i64.wrap ((m:Int)-a)=(U.length:Int):=by rw[qh (by omega)];omega
  have w1:IntKind.i64.wrap ((e:Int)-m)=(V.length:Int):=by rw[qh (by omega)];omega
  simp (maxSteps:=mS) [-Prod.forall,hty,hsz,ed,w0,w1]
  refine qf (I:=fun x:List _×List _×List _×List _=>⟨[(0,.ms ty sz b 0 N),(2,.int .i64 m),(4,.fn g []),(10,.int .i64 x.2.1.length),(11,.int .i64 x.2.2.1.length)],[],σ.set b (rowE EE (x.1++(x.2.1++(x.2.2.1++x.2.2.2))))⟩)
   (Pr:=fun x=>x.1.length+x.2.1.length=m∧0<x.2.1.length∧0<x.2.2.1.length∧x.1++(x.2.2.1++(x.2.1++x.2.2.2))=pre++(V++(U++post))) (μ:=fun x=>x.2.1.length+x.2.2.1.length) (a:=(pre,U,V,post)) (by simp[hty,hsz]) (by simp;omega) ?_
  rintro⟨p,X,Y,q⟩ ⟨h1,h2,h3,h4⟩
  simp only at h1 h2 h3 h4 ⊢
  have hl:=congrArg List.length h4
  simp only[List.length_append] at hl
  obtain⟨i,hi⟩:∃i,X.length=i:=⟨_,rfl⟩
  obtain⟨j,hj⟩:∃j,Y.length=j:=⟨_,rfl⟩
  have hp:p.length=m-i:=by omega
  obtain⟨z,hz⟩:∃z,m-i=z:=⟨_,rfl⟩
  have w2:IntKind.i64.wrap ((m:Int)-i)=(z:Int):=by rw[qh (by omega)];omega
  have hlen:(p++(X++(Y++q))).length=N:=by simp;omega
  by_cases hij:i=j
  ·have hs:=qs b σ (p++(X++([]++(Y++q)))) z m i g (by simp;omega) (by simp;omega) (by simp;omega) hb
   have hsw:=qix (pre:=p) (U:=X) (mid:=[]) (V:=Y) (post:=q) (n:=i) hi (by omega)
   have e1:p.length+i=m:=by omega
   simp only[List.length_nil,Nat.add_zero] at hsw
   rw[e1,hp,hz] at hsw
   rw[hsw] at hs
   simp only[List.nil_append] at hs
   rw[hlen,h4] at hs
   subst hij
   simp (maxSteps:=mS) [-Prod.forall,hty,hsz,ed,hi,hj,w2,hs,results237,results242,results238,results275]
  ·have hij':¬(i:Int)=j:=by omega
   by_cases hlt:j<i
   ·have hX:X=X.take j++X.drop j:=(List.take_append_drop j X).symm
    have hs:=qs b σ (p++(X.take j++(X.drop j++(Y++q)))) z m j g (by simp;omega) (by simp;omega) (by simp;omega) hb
    have hsw:=qix (pre:=p) (U:=X.take j) (mid:=X.drop j) (V:=Y) (post:=q) (n:=j) (by simp;omega) hj
    have e1:p.length+(j+(X.drop j).length)=m:=by simp;omega
    rw[e1,hp,hz] at hsw
    rw[hsw] at hs
    have e2:X.take j++(X.drop j++(Y++q))=X++(Y++q):=by rw[← List.append_assoc,← hX]
    rw[e2,hlen] at hs
    have w3:IntKind.i64.wrap ((i:Int)-j)=((i-j:Nat):Int):=by rw[qh (by omega)];omega
    obtain⟨r,hr⟩:∃r,i-j=r:=⟨_,rfl⟩
    rw[hr] at w3
    simp (maxSteps:=mS) [-Prod.forall,hty,hsz,ed,hi,hj,hij,hlt,w2,w3,hs]
    refine⟨p++Y,X.drop j,X.take j,q,⟨?_,?_,?_,?_⟩,?_,?_,?_⟩
    ·simp;omega
    ·simp;omega
    ·simp;omega
    ·rw[← h4]
     simp only[List.append_assoc]
     rw[← List.append_assoc (X.take j),← hX]
    ·simp;omega
    ·simp;omega
    ·simp
   ·have hlt':i<j:=by omega
    have hY:Y=Y.take (j-i)++Y.drop (j-i):=(List.take_append_drop (j-i) Y).symm
    obtain⟨r,hr⟩:∃r,j-i=r:=⟨_,rfl⟩
    rw[hr] at hY
    have hs:=qs b σ (p++(X++(Y.take r++(Y.drop r++q)))) z (m+r) i g (by simp;omega) (by simp;omega) (by simp;omega) hb
    have hsw:=qix (pre:=p) (U:=X) (mid:=Y.take r) (V:=Y.drop r) (post:=q) (n:=i) hi (by simp;omega)
    have e1:p.length+(i+(Y.take r).length)=m+r:=by simp;omega
    rw[e1,hp,hz] at hsw
    rw[hsw] at hs
    have e2:Y.take r++(Y.drop r++q)=Y++q:=by rw[← List.append_assoc,← hY]
    rw[e2,hlen] at hs
    have w3:IntKind.i64.wrap ((j:Int)-i)=(r:Int):=by rw[qh (by omega)];omega
    obtain⟨y,hy⟩:∃y,m+r=y:=⟨_,rfl⟩
    have w4:IntKind.i64.wrap ((m:Int)+j)=(m:Int)+j:=qh (by omega)
    have w5:IntKind.i64.wrap ((m:Int)+j-i)=(y:Int):=by rw[qh (by omega)];omega
    rw[hy] at hs
    simp (maxSteps:=mS) [-Prod.forall,hty,hsz,ed,hi,hj,hij,hlt,w2,w3,w4,w5,hs]
    refine⟨p,Y.drop r,Y.take r,X++q,⟨?_,?_,?_,?_⟩,?_,?_,?_⟩
    ·simp;omega
    ·simp;omega
    ·simp;omega
    ·rw[← h4]
     rw[← List.append_assoc (Y.take r),← hY]
    ·simp;omega
    ·simp;omega
    ·simp
end Go.Proofs.Tryz.Ai
end
