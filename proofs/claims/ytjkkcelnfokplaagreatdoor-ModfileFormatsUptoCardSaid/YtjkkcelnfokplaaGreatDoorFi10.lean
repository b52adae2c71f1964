/- Part 10 of a proof: Go functions are evaluated on abstract values; no conditions beyond those of each theorem. -/
import Derived.Test.YtjkkcelnfokplaaGreatDoorFi9
set_option linter.all false
set_option maxHeartbeats 16000000
set_option maxRecDepth 4000
section
namespace Go.Proofs.Tryz.Ai
open Go Go.AI Go.Proofs
structure CmpOkK (κ:K) (EE:κ.d.α→List AV) (g:Nat) (c:κ.d.α→κ.d.α→Int) (Q:κ.d.α→Prop):Prop where
 tp:TP c
 lt:g<100000
 run:∀x y,Q x→Q y→∀σ,ev g [.agg (EE x),.agg (EE y)] σ=some (.int .i64 (c x y),σ)
theorem qja {κ:K}:∀{EE:κ.d.α→List AV} {ty sz:Nat} (kk:KOk κ EE ty sz) {g:Nat} {c:κ.d.α→κ.d.α→Int} {Q:κ.d.α→Prop} (h:CmpOkK κ EE g c Q) (b:Nat) (σ:List (List AV)) (pre L post:List κ.d.α) (hL:∀x∈L,Q x) (N a e:Nat) (hN:N≤2^30) (hNe:N=pre.length+(L.length+post.length)) (ha:a=pre.length) (he:e=a+L.length) (hb:b<σ.length),
  ev κ.d.fI [.ms ty sz b 0 N,.int .i64 a,.int .i64 e,.fn g []] (σ.set b (rowE EE (pre++(L++post))))=some (.tup [],σ.set b (rowE EE (pre++(isrt c L++post)))):=by
 cases κ
 all_goals
  dsimp only[K.d]
  intro EE ty sz kk g c Q h b σ pre L post hL N a e hN hNe ha he hb
  have eg:=K.get kk
  have eb:=K.bnd kk
  have es:=K.set kk
  have ed:=K.dem kk
  have lo:=K.low kk
  obtain⟨hE,hty,hsz⟩:=kk
  dsimp only[K.d] at eg eb es ed lo hE hty hsz
 refine qk func185 ntmps185 ?_
 rotate_left
 refine qk func197 ntmps197 ?_
 rotate_left
 refine qk func188 ntmps188 ?_
 rotate_left
 refine qk func259 ntmps259 ?_
 rotate_left
 all_goals
  simp only[esQ,esT,esP,esM] at hE
  simp only[hE,List.cons_append,List.nil_append] at eg es
  have w0:=wr1 a (by omega)
  have hgl:=h.lt
  simp (maxSteps:=mS) [-Prod.forall,hty,hsz,ed,w0]
  refine qf (I:=fun k:Nat=>⟨[(0,.ms ty sz b 0 N),(1,.int .i64 a),(2,.int .i64 e),(3,.fn g []),(8,.int .i64 ((a+k:Nat):Int))],[],σ.set b (rowE EE (pre++(isrt c (L.take k)++(L.drop k++post))))⟩) (Pr:=fun k=>1≤k∧(k≤L.length∨L=[])) (μ:=fun k=>L.length-k) (a:=1)
   (by cases L with
     | nil=>simp[isrt,hty,hsz]
     | cons x L=>simp[isrt,ins1,hty,hsz]) (by cases L<;>simp) ?_
  rintro k ⟨hk1,hk2⟩
  by_cases hc:k<L.length
  ·obtain⟨x,hx⟩:=getS hc
   have hQx:=hL x (List.mem_of_getElem? hx)
   have hdrop:L.drop k=x::L.drop (k+1):=by rw[List.drop_eq_getElem_cons hc];congr 1;exact (List.getElem?_eq_some_iff.1 hx).2
   have hS:isrt c (L.take (k+1))=mrg c (isrt c (L.take k)) [x]:=by
    rw[List.take_add_one,hx];exact qda h.tp _ _
   have hSs:=qbe h.tp (L.take k)
   have hSl:(isrt c (L.take k)).length=k:=by rw[qp];simp;omega
   have hSQ:∀y∈isrt c (L.take k),Q y:=fun y hy=>hL y (List.mem_of_mem_take (qac.1 hy))
   rw[hdrop]
   obtain⟨S,hSe⟩:∃S,isrt c (L.take k)=S:=⟨_,rfl⟩
   rw[hSe] at hS hSs hSl hSQ ⊢
   obtain⟨m,hm⟩:∃m,a+k=m:=⟨_,rfl⟩
   have q0:(m:Int)<e:=by omega
   have q1:m<e:=by omega
   simp (maxSteps:=mS) [-Prod.forall,hty,hsz,ed,hm,q1]
   refine qf (I:=fun u:Nat=>⟨[(0,.ms ty sz b 0 N),(1,.int .i64 a),(2,.int .i64 e),(3,.fn g []),(8,.int .i64 m),(9,.int .i64 ((a+u:Nat):Int))],[],σ.set b (rowE EE (pre++(S.take u++x::(S.drop u++(L.drop (k+1)++post)))))⟩)
    (Pr:=fun u=>u≤k∧∀v∈S.drop u,c x v<0) (μ:=fun u=>u) (a:=k) (by simp[hty,hsz,hm,← hSl];omega) (by simp[← hSl]) ?_
   rintro u ⟨hu,hV⟩
   have hfin:(∀y,(S.take u).getLast? = some y→¬c x y<0)→isrt c (L.take (k+1))=S.take u++x::S.drop u:=by
    intro hq
    rw[hS]
    have:S=S.take u++S.drop u:=(List.take_append_drop u S).symm
    conv=>lhs;rw[this]
    refine qe3 (fun y hy=>?_) hV
    obtain⟨z,hz⟩:∃z,(S.take u).getLast? = some z:=by
     cases hg:(S.take u).getLast? with
     | none=>rw[List.getLast?_eq_none_iff] at hg;rw[hg] at hy;cases hy
     | some z=>exact⟨z,rfl⟩
    have h1:=hq z hz
    have hyz:y=z∨c y z≤0:=by
     rw[this] at hSs
     have hs1:=(List.pairwise_append.1 hSs).1
     obtain⟨ys,hys⟩:=List.getLast?_eq_some_iff.1 hz
     rw[hys] at hy hs1
     rcases List.mem_append.1 hy with hy|hy
     ·exact .inr ((List.pairwise_append.1 hs1).2.2 y hy z (by simp))
     ·simp at hy;exact .inl hy
    rcases hyz with rfl|hyz
    ·exact h1
    ·exact h.tp.nlt.2 (h.tp.trans _ _ _ hyz (h.tp.nlt.1 h1))
   obtain⟨R,hR⟩:∃R,L.drop (k+1)++post=R:=⟨_,rfl⟩
   rw[hR]
   cases u with
   | zero =>
    have hf:=hfin (by simp)
    have w2:=wr1 m (by omega)
    obtain⟨D,hD⟩:∃D,pre++(S.take 0++x::(S.drop 0++R))=D:=⟨_,rfl⟩
    rw[hD]
    simp (maxSteps:=mS) [-Prod.forall,hty,hsz,ed,-qb]
    refine qg [] _ (k:=?_)
    repeat (first|refine qd _ (hs:=by simp (maxSteps:=mS) [hty,hsz,ed];exact rfl) (k:=?_)|refine qaj (by rfl) (by rfl) ?_)
    refine qc ?_
    simp (maxSteps:=mS) [-Prod.forall,hty,hsz,ed,w2]
    refine⟨k+1,⟨by omega,by omega⟩,by omega,by omega,?_⟩
    rw[hf,← hD,← hR];simp
   | succ w =>
    obtain⟨y,hy⟩:∃y,S[w]? = some y:=⟨_,List.getElem?_eq_getElem (by omega)⟩
    have hQy:=hSQ y (List.mem_of_getElem? hy)
    have hcmp:=h.run x y hQx hQy
    simp only[hE] at hcmp
    have hB:=bubL (pre:=pre) (rest:=R) (x:=x) hy
    rw[← ha] at hB
    obtain⟨D,hD⟩:∃D,pre++(S.take (w+1)++x::(S.drop (w+1)++R))=D:=⟨_,rfl⟩
    rw[hD] at hB ⊢
    have hDl:D.length=N:=by rw[← hD,← hR];simp;omega
    obtain⟨i,hi⟩:∃i,a+w=i:=⟨_,rfl⟩
    have hj:a+(w+1)=i+1:=by omega
    rw[hi,hj] at hB
    have w1:IntKind.i64.wrap ((i:Int)+1-1)=(i:Int):=by rw[qh (by omega)];omega
    have w2:=wr1 m (by omega)
    have p1:(a:Int)<(i:Int)+1:=by omega
    have p2:((i:Int)+1).toNat=i+1:=by omega
    have p3:i+1<N:=by omega
    have p4:i<N:=by omega
    have p5:=eb D i (by omega)
    have p6:=eb D (i+1) (by omega)
    have p7:(0:Int)≤(i:Int)+1:=by omega
    have g1:=eg _ _ _ hB.1
    have r1:=eb _ _ (List.getElem?_eq_some_iff.1 hB.1).1
    have g2:=eg _ _ _ hB.2.1
    have r2:=eb _ _ (List.getElem?_eq_some_iff.1 hB.2.1).1
    have s1:=es (D) (i+1) y (by omega)
    have s2:=es (D.set (i+1) y) (i) x (by simp;omega)
    have p8:=eb (D.set (i+1) y) i (by simp;omega)
    have hsw:=hB.2.2
    rw[qcp hB.2.1 hB.1] at hsw
    have hj2:(a:Int)+((w:Int)+1)=((i+1:Nat):Int):=by omega
    have hi2:(a:Int)+(w:Int)=(i:Int):=by omega
    obtain⟨i1,hi1⟩:∃z,i+1=z:=⟨_,rfl⟩
    have w1:IntKind.i64.wrap ((i1:Int)-1)=(i:Int):=by rw[qh (by omega)];omega
    rw[hi1] at g2 r2 s1 p3 p6 hj2 hsw
    have s2:=es (D.set i1 y) (i) x (by simp;omega)
    have p8:=eb (D.set i1 y) i (by simp;omega)
    have p1:a<i1:=by omega
    simp (maxSteps:=mS) [-Prod.forall,hty,hsz,ed,-qb,hj2]
    refine qg [] _ (k:=?_)
    repeat (first|refine qd _ (hs:=by simp (maxSteps:=mS) [hty,hsz,ed,-getElem?_pos,w1,p1,p3,p4,g1,g2,r1,r2,hgl,hcmp,hb];exact rfl) (k:=?_)|refine qaj (by rfl) (by rfl) ?_)
    refine qc ?_
    by_cases hlt:c x y<0
    ·have hV2:∀v∈S.drop w,c x v<0:=by
      have hd:S.drop w=y::S.drop (w+1):=by rw[List.drop_eq_getElem_cons (by omega)];congr 1;exact (List.getElem?_eq_some_iff.1 hy).2
      rw[hd]
      intro v hv
      rcases List.mem_cons.1 hv with rfl|hv
      ·exact hlt
      ·exact hV v hv
     simp (maxSteps:=mS) [-Prod.forall,hty,hsz,ed,-qb,hlt]
     refine qg [] _ (k:=?_)
     repeat (first|refine qd _ (hs:=by simp (maxSteps:=mS) [hty,hsz,ed,-getElem?_pos,w1,p3,p4,p5,p6,p8,g1,g2,r1,r2,s1,s2,hb];exact rfl) (k:=?_)|refine qaj (by rfl) (by rfl) ?_)
     refine qc ?_
     simp (maxSteps:=mS) [-Prod.forall,hty,hsz,ed,w1]
     exact⟨w,⟨by omega,hV2⟩,by omega,hi2.symm,by rw[hsw]⟩
    ·have hf:=hfin (fun z hz=>by
      have:(S.take (w+1)).getLast? = some y:=by rw[List.take_add_one,hy];simp
      rw[this] at hz;injection hz with hz;subst hz;exact hlt)
     simp (maxSteps:=mS) [-Prod.forall,hty,hsz,ed,hlt,w2]
     refine⟨k+1,⟨by omega,by omega⟩,by omega,by omega,?_⟩
     rw[hf,← hD,← hR];simp
  ·have hk:L.take k=L∧L.drop k=[]:=by
    rcases hk2 with h|h
    ·exact⟨List.take_of_length_le (by omega),List.drop_of_length_le (by omega)⟩
    ·subst h;simp
   rw[hk.1,hk.2]
   obtain⟨m,hm⟩:∃m,a+k=m:=⟨_,rfl⟩
   have q1:¬m<e:=by omega
   have hlow:=qcq (σ:=σ) (b:=b) (X:=rowE EE (pre++(L++post))) (lo _ (pre++(isrt c L++([]++post))))
   rw[hm]
   obtain⟨X,hX⟩:∃X,rowE EE (pre++(isrt c L++([]++post)))=X:=⟨_,rfl⟩
   rw[hX] at hlow ⊢
   simp (maxSteps:=mS) [-Prod.forall,hty,hsz,ed,q1]
   rw[qo hlow,← hX]
   simp
end Go.Proofs.Tryz.Ai
end
