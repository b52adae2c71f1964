/- Part 12 of a proof: Go functions are evaluated on abstract values; no conditions beyond those of each theorem. -/
import Derived.Test.YtjkkcelnfokplaaGreatDoorFi11
set_option linter.all false
set_option maxHeartbeats 16000000
set_option maxRecDepth 4000
section
namespace Go.Proofs.Tryz.Ai
open Go Go.AI Go.Proofs
def MrgOkK (κ:K) (EE:κ.d.α→List AV) (ty sz:Nat) (g:Nat) (c:κ.d.α→κ.d.α→Int) (Q:κ.d.α→Prop) (n:Nat):Prop :=
 ∀(b:Nat) (σ:List (List AV)) (pre L R post:List κ.d.α) (N a m e:Nat),L.length+R.length=n→N≤2^30→N=pre.length+(L.length+(R.length+post.length))→a=pre.length→m=a+L.length→e=m+R.length→0<L.length→0<R.length →
  Srt c L→Srt c R→(∀x∈L,Q x)→(∀x∈R,Q x)→b<σ.length →
  ev κ.d.fM [.ms ty sz b 0 N,.int .i64 a,.int .i64 m,.int .i64 e,.fn g []] (σ.set b (rowE EE (pre++(L++(R++post)))))=some (.tup [],σ.set b (rowE EE (pre++(mrg c L R++post))))
theorem qou {κ:K}:∀{EE:κ.d.α→List AV} {ty sz:Nat} (kk:KOk κ EE ty sz) {g:Nat} {c:κ.d.α→κ.d.α→Int} {Q:κ.d.α→Prop} (h:CmpOkK κ EE g c Q) (b:Nat) (σ:List (List AV)) (pre:List κ.d.α) (x:κ.d.α) (R post:List κ.d.α) (N a m e:Nat) (hN:N≤2^30) (hNe:N=pre.length+(1+(R.length+post.length))) (ha:a=pre.length) (hm:m=a+1) (he:e=m+R.length) (hR:Srt c R) (hx:Q x) (hQ:∀x∈R,Q x) (hb:b<σ.length),
  ev κ.d.fM [.ms ty sz b 0 N,.int .i64 a,.int .i64 m,.int .i64 e,.fn g []] (σ.set b (rowE EE (pre++([x]++(R++post)))))=some (.tup [],σ.set b (rowE EE (pre++(mrg c [x] R++post)))):=by
 cases κ
 all_goals
  dsimp only[K.d]
  intro EE ty sz kk g c Q h b σ pre x R post N a m e hN hNe ha hm he hR hx hQ hb
  obtain⟨D,hD⟩:∃D,pre++([x]++(R++post))=D:=⟨_,rfl⟩
  have hDl:D.length=N:=by rw[← hD];simp;omega
  have hDx:D[a]? = some x:=by rw[← hD,ha];simp
  have hDR:∀k,k<R.length→D[m+k]? = R[k]?:=by
   intro k hk
   rw[← hD,hm,ha,List.getElem?_append_right (by omega),List.getElem?_append_right (by simp;omega),List.getElem?_append_left (by simp;omega)]
   congr 1;simp;omega
  have w0:IntKind.i64.wrap ((m:Int)-a)=1:=by rw[qh (by omega)];omega
  have hgl:=h.lt
  rw[hD]
  have eg:=K.get kk
  have eb:=K.bnd kk
  have es:=K.set kk
  have ed:=K.dem kk
  have lo:=K.low kk
  obtain⟨hE,hty,hsz⟩:=kk
  dsimp only[K.d] at eg eb es ed lo hE hty hsz
 refine qk func186 ntmps186 ?_
 rotate_left
 refine qk func198 ntmps198 ?_
 rotate_left
 refine qk func189 ntmps189 ?_
 rotate_left
 refine qk func260 ntmps260 ?_
 rotate_left
 all_goals
  simp only[esQ,esT,esP,esM] at hE
  simp only[hE,List.cons_append,List.nil_append] at eg es
  simp (maxSteps:=mS) [-Prod.forall,hty,hsz,ed,w0]
  refine qf (I:=fun p:Nat×Nat=>⟨[(0,.ms ty sz b 0 N),(1,.int .i64 a),(4,.fn g []),(10,.int .i64 p.1),(11,.int .i64 p.2)],[],σ.set b (rowE EE D)⟩)
   (Pr:=fun p=>m≤p.1∧p.1≤p.2∧p.2≤e∧(∀y∈R.take (p.1-m),c y x<0)∧(∀y∈R.drop (p.2-m),¬c y x<0)) (μ:=fun p=>p.2-p.1) (a:=(m,e)) (by simp[hty,hsz]) (by simp[he]) ?_
  rintro⟨i,j⟩ ⟨h1,h2,h3,h4,h5⟩
  simp only at h1 h2 h3 h4 h5 ⊢
  by_cases hc:i<j
  ·have hw:=half_w (i:=i) (j:=j) (by omega)
   obtain⟨z,hz⟩:∃z,i+j=z:=⟨_,rfl⟩
   obtain⟨k,hk⟩:∃z,(i+j)/2=z:=⟨_,rfl⟩
   rw[hk,hz] at hw
   obtain⟨hw1,hw2,hw3,hw4⟩:=hw
   have hk1:i≤k∧k<j:=by omega
   obtain⟨y,hy⟩:∃y,R[k-m]? = some y:=⟨_,List.getElem?_eq_getElem (by omega)⟩
   have hDy:D[k]? = some y:=by rw[← hy,← hDR _ (by omega)];congr 1;omega
   have g1:=eg _ _ _ hDx
   have r1:=eb _ _ (List.getElem?_eq_some_iff.1 hDx).1
   have g2:=eg _ _ _ hDy
   have r2:=eb _ _ (List.getElem?_eq_some_iff.1 hDy).1
   have hcmp:=h.run y x (hQ y (List.mem_of_getElem? hy)) hx
   simp only[hE] at hcmp
   have p1:k<N:=by omega
   have p2:a<N:=by omega
   have w5:IntKind.i64.wrap ((k:Int)+1)=((k+1:Nat):Int):=by rw[qh (by omega)];omega
   simp (maxSteps:=mS) [-Prod.forall,hty,hsz,ed,-qb,hc,hw1,hw2,hw3,hw4]
   refine qg [] _ (k:=?_)
   repeat (first|refine qd _ (hs:=by simp (maxSteps:=mS) [hty,hsz,ed,-getElem?_pos,p1,p2,g1,g2,r1,r2,hgl,hcmp,hb];exact rfl) (k:=?_)|refine qaj (by rfl) (by rfl) ?_)
   refine qc ?_
   have hge:k-m<R.length:=by omega
   by_cases hlt:c y x<0
   ·simp (maxSteps:=mS) [-Prod.forall,hty,hsz,ed,hlt,w5]
    refine⟨k+1,j,⟨by omega,by omega,by omega,fun w hw=>?_,fun w hw=>?_⟩,by omega,by simp⟩
    ·obtain⟨q,hq,hw⟩:=qan hw
     exact h.tp.le_lt (qbj h.tp hR (by omega) hw hy) hlt
    ·have:=h5 w hw;omega
   ·simp (maxSteps:=mS) [-Prod.forall,hty,hsz,ed,hlt]
    refine⟨i,k,⟨by omega,by omega,by omega,fun w hw=>?_,fun w hw=>?_⟩,by omega,by simp,by simp⟩
    ·exact h4 w hw
    ·obtain⟨q,hq,hw⟩:=qb3 hw
     have:=h.tp.nlt.1 hlt
     have:=h.tp.trans _ _ _ this (qbj h.tp hR hq hy hw)
     have:=h.tp.flip x w;omega
  ·have hij:i=j:=by omega
   subst hij
   simp (maxSteps:=mS) [-Prod.forall,hty,hsz,ed,hc]
   obtain⟨p,hp⟩:∃p,i-m=p:=⟨_,rfl⟩
   rw[hp] at h4 h5
   have hfin:mrg c [x] R=R.take p++x::R.drop p:=by
    conv=>lhs;rw[← List.take_append_drop p R]
    exact qup h4 h5
   have hi:i=a+1+p:=by omega
   have hpR:p≤R.length:=by omega
   have w1:IntKind.i64.wrap ((i:Int)-1)=((a+p:Nat):Int):=by rw[qh (by omega)];omega
   refine qf (I:=fun u:Nat=>⟨[(0,.ms ty sz b 0 N),(10,.int .i64 i),(13,.int .i64 ((a+u:Nat):Int))],[],σ.set b (rowE EE (pre++(R.take u++x::(R.drop u++post))))⟩)
    (Pr:=fun u=>u≤p) (μ:=fun u=>p-u) (a:=0) (by simp[hty,hsz,← hD]) (by simp) ?_
   intro u hu
   by_cases huc:u<p
   ·obtain⟨y,hy⟩:∃y,R[u]? = some y:=⟨_,List.getElem?_eq_getElem (by omega)⟩
    have hB:=bubR (pre:=pre) (rest:=post) (x:=x) hy
    rw[← ha] at hB
    obtain⟨D',hD'⟩:∃D',pre++(R.take u++x::(R.drop u++post))=D':=⟨_,rfl⟩
    rw[hD'] at hB ⊢
    have hDl':D'.length=N:=by rw[← hD'];simp;omega
    obtain⟨k,hk⟩:∃z,a+u=z:=⟨_,rfl⟩
    obtain⟨k1,hk1⟩:∃z,k+1=z:=⟨_,rfl⟩
    have e1:a+(u+1)=k1:=by omega
    rw[hk,e1] at hB
    obtain⟨z,hz⟩:∃z,a+p=z:=⟨_,rfl⟩
    rw[hz] at w1
    have q1:k<z:=by omega
    have w2:IntKind.i64.wrap ((k:Int)+1)=(k1:Int):=by rw[qh (by omega)];omega
    have g1:=eg _ _ _ hB.1
    have r1:=eb _ _ (List.getElem?_eq_some_iff.1 hB.1).1
    have g2:=eg _ _ _ hB.2.1
    have r2:=eb _ _ (List.getElem?_eq_some_iff.1 hB.2.1).1
    have s1:=es (D') (k) y (by omega)
    have s2:=es (D'.set k y) (k1) x (by simp;omega)
    have hsw:=hB.2.2
    rw[qcp hB.1 hB.2.1] at hsw
    have p1:k<N:=by omega
    have p2:k1<N:=by omega
    have p5:=eb D' k (by omega)
    have p6:=eb (D'.set k y) k1 (by simp;omega)
    rw[hk]
    simp (maxSteps:=mS) [-Prod.forall,hty,hsz,ed,-qb,w1,q1]
    refine qg [] _ (k:=?_)
    repeat (first|refine qd _ (hs:=by simp (maxSteps:=mS) [hty,hsz,ed,-getElem?_pos,w2,p1,p2,p5,p6,g1,g2,r1,r2,s1,s2,hb];exact rfl) (k:=?_)|refine qaj (by rfl) (by rfl) ?_)
    refine qc ?_
    simp (maxSteps:=mS) [-Prod.forall,hty,hsz,ed,w2]
    exact⟨u+1,by omega,by omega,by omega,by rw[hsw]⟩
   ·obtain rfl:u=p:=by omega
    obtain⟨k,hk⟩:∃z,a+u=z:=⟨_,rfl⟩
    rw[hk] at w1 ⊢
    have hlow:=qcq (σ:=σ) (b:=b) (X:=rowE EE D) (lo _ (pre++(mrg c [x] R++post)))
    have e2:pre++(R.take u++x::(R.drop u++post))=pre++(mrg c [x] R++post):=by rw[hfin];simp
    rw[e2]
    obtain⟨X,hX⟩:∃X,rowE EE (pre++(mrg c [x] R++post))=X:=⟨_,rfl⟩
    rw[hX] at hlow ⊢
    simp (maxSteps:=mS) [-Prod.forall,hty,hsz,ed,w1]
    rw[qo hlow]
theorem qma {κ:K}:∀{EE:κ.d.α→List AV} {ty sz:Nat} (kk:KOk κ EE ty sz) {g:Nat} {c:κ.d.α→κ.d.α→Int} {Q:κ.d.α→Prop} (h:CmpOkK κ EE g c Q) (b:Nat) (σ:List (List AV)) (pre:List κ.d.α) (x:κ.d.α) (L post:List κ.d.α) (N a m e:Nat) (hN:N≤2^30) (hNe:N=pre.length+(L.length+(1+post.length))) (ha:a=pre.length) (hm:m=a+L.length) (he:e=m+1) (h2:2≤L.length) (hL:Srt c L) (hx:Q x) (hQ:∀x∈L,Q x) (hb:b<σ.length),
  ev κ.d.fM [.ms ty sz b 0 N,.int .i64 a,.int .i64 m,.int .i64 e,.fn g []] (σ.set b (rowE EE (pre++(L++([x]++post)))))=some (.tup [],σ.set b (rowE EE (pre++(mrg c L [x]++post)))):=by
 cases κ
 all_goals
  dsimp only[K.d]
  intro EE ty sz kk g c Q h b σ pre x L post N a m e hN hNe ha hm he h2 hL hx hQ hb
  obtain⟨D,hD⟩:∃D,pre++(L++([x]++post))=D:=⟨_,rfl⟩
  have hDl:D.length=N:=by rw[← hD];simp;omega
  have hDx:D[m]? = some x:=by
   rw[← hD,hm,ha,List.getElem?_append_right (by omega),List.getElem?_append_right (by omega)];simp
  have hDL:∀k,k<L.length→D[a+k]? = L[k]?:=by
   intro k hk
   rw[← hD,ha,List.getElem?_append_right (by omega),List.getElem?_append_left (by omega)]
   congr 1;omega
  have w0:IntKind.i64.wrap ((m:Int)-a)=(L.length:Int):=by rw[qh (by omega)];omega
  have w1:IntKind.i64.wrap ((e:Int)-m)=1:=by rw[qh (by omega)];omega
  have hgl:=h.lt
  have q0:¬(L.length:Int)=1:=by omega
  have q0':¬L.length=1:=by omega
  rw[hD]
  have eg:=K.get kk
  have eb:=K.bnd kk
  have es:=K.set kk
  have ed:=K.dem kk
  have lo:=K.low kk
  obtain⟨hE,hty,hsz⟩:=kk
  dsimp only[K.d] at eg eb es ed lo hE hty hsz
 refine qk func186 ntmps186 ?_
 rotate_left
 refine qk func198 ntmps198 ?_
 rotate_left
 refine qk func189 ntmps189 ?_
 rotate_left
 refine qk func260 ntmps260 ?_
 rotate_left
 all_goals
  simp only[esQ,esT,esP,esM] at hE
  simp only[hE,List.cons_append,List.nil_append] at eg es
  simp (maxSteps:=mS) [-Prod.forall,hty,hsz,ed,w0,w1,q0,q0']
  refine qf (I:=fun p:Nat×Nat=>⟨[(0,.ms ty sz b 0 N),(2,.int .i64 m),(4,.fn g []),(14,.int .i64 p.1),(15,.int .i64 p.2)],[],σ.set b (rowE EE D)⟩)
   (Pr:=fun p=>a≤p.1∧p.1≤p.2∧p.2≤m∧(∀y∈L.take (p.1-a),¬c x y<0)∧(∀y∈L.drop (p.2-a),c x y<0)) (μ:=fun p=>p.2-p.1) (a:=(a,m)) (by simp[hty,hsz]) (by simp[hm]) ?_
  rintro⟨i,j⟩ ⟨h1,h2,h3,h4,h5⟩
  simp only at h1 h2 h3 h4 h5 ⊢
  by_cases hc:i<j
  ·have hw:=half_w (i:=i) (j:=j) (by omega)
   obtain⟨z,hz⟩:∃z,i+j=z:=⟨_,rfl⟩
   obtain⟨k,hk⟩:∃z,(i+j)/2=z:=⟨_,rfl⟩
   rw[hk,hz] at hw
   obtain⟨hw1,hw2,hw3,hw4⟩:=hw
   have hk1:i≤k∧k<j:=by omega
   obtain⟨y,hy⟩:∃y,L[k-a]? = some y:=⟨_,List.getElem?_eq_getElem (by omega)⟩
   have hDy:D[k]? = some y:=by rw[← hy,← hDL _ (by omega)];congr 1;omega
   have g1:=eg _ _ _ hDx
   have r1:=eb _ _ (List.getElem?_eq_some_iff.1 hDx).1
   have g2:=eg _ _ _ hDy
   have r2:=eb _ _ (List.getElem?_eq_some_iff.1 hDy).1
   have hcmp:=h.run x y hx (hQ y (List.mem_of_getElem? hy))
   simp only[hE] at hcmp
   have p1:k<N:=by omega
   have p2:m<N:=by omega
   have w5:IntKind.i64.wrap ((k:Int)+1)=((k+1:Nat):Int):=by rw[qh (by omega)];omega
   simp (maxSteps:=mS) [-Prod.forall,hty,hsz,ed,-qb,hc,hw1,hw2,hw3,hw4]
   refine qg [] _ (k:=?_)
   repeat (first|refine qd _ (hs:=by simp (maxSteps:=mS) [hty,hsz,ed,-getElem?_pos,p1,p2,g1,g2,r1,r2,hgl,hcmp,hb];exact rfl) (k:=?_)|refine qaj (by rfl) (by rfl) ?_)
   refine qc ?_
   by_cases hlt:c x y<0
   ·simp (maxSteps:=mS) [-Prod.forall,hty,hsz,ed,hlt]
    refine⟨i,k,⟨by omega,by omega,by omega,fun w hw=>?_,fun w hw=>?_⟩,by omega,by simp,by simp⟩
    ·have:=h4 w hw;omega
    ·obtain⟨q,hq,hw⟩:=qb3 hw
     exact h.tp.lt_le hlt (qbj h.tp hL hq hy hw)
   ·simp (maxSteps:=mS) [-Prod.forall,hty,hsz,ed,hlt,w5]
    refine⟨k+1,j,⟨by omega,by omega,by omega,fun w hw=>?_,fun w hw=>?_⟩,by omega,by simp⟩
    ·obtain⟨q,hq,hw⟩:=qan hw
     have:=h.tp.trans _ _ _ (qbj h.tp hL (by omega) hw hy) (h.tp.nlt.1 hlt)
     have:=h.tp.flip x w;omega
    ·exact h5 w hw
  ·have hij:i=j:=by omega
   subst hij
   simp (maxSteps:=mS) [-Prod.forall,hty,hsz,ed,hc]
   obtain⟨p,hp⟩:∃p,i-a=p:=⟨_,rfl⟩
   rw[hp] at h4 h5
   have hfin:mrg c L [x]=L.take p++x::L.drop p:=by
    conv=>lhs;rw[← List.take_append_drop p L]
    exact qe3 h4 h5
   have hi:i=a+p:=by omega
   have hpR:p≤L.length:=by omega
   refine qf (I:=fun u:Nat=>⟨[(0,.ms ty sz b 0 N),(14,.int .i64 i),(17,.int .i64 ((a+u:Nat):Int))],[],σ.set b (rowE EE (pre++(L.take u++x::(L.drop u++post))))⟩)
    (Pr:=fun u=>p≤u∧u≤L.length) (μ:=fun u=>u-p) (a:=L.length) (by simp[hty,hsz,← hD,hm]) (by simp;omega) ?_
   rintro u ⟨hu,hul⟩
   by_cases huc:p<u
   ·obtain⟨w,rfl⟩:∃w,u=w+1:=⟨u-1,by omega⟩
    obtain⟨y,hy⟩:∃y,L[w]? = some y:=⟨_,List.getElem?_eq_getElem (by omega)⟩
    have hB:=bubL (pre:=pre) (rest:=post) (x:=x) hy
    rw[← ha] at hB
    obtain⟨D',hD'⟩:∃D',pre++(L.take (w+1)++x::(L.drop (w+1)++post))=D':=⟨_,rfl⟩
    rw[hD'] at hB ⊢
    have hDl':D'.length=N:=by rw[← hD'];simp;omega
    obtain⟨k,hk⟩:∃z,a+w=z:=⟨_,rfl⟩
    obtain⟨k1,hk1⟩:∃z,k+1=z:=⟨_,rfl⟩
    have e1:a+(w+1)=k1:=by omega
    rw[hk,e1] at hB
    have q1:i<k1:=by omega
    have w2:IntKind.i64.wrap ((k1:Int)-1)=(k:Int):=by rw[qh (by omega)];omega
    have g1:=eg _ _ _ hB.1
    have r1:=eb _ _ (List.getElem?_eq_some_iff.1 hB.1).1
    have g2:=eg _ _ _ hB.2.1
    have r2:=eb _ _ (List.getElem?_eq_some_iff.1 hB.2.1).1
    have s1:=es (D') (k1) y (by omega)
    have s2:=es (D'.set k1 y) (k) x (by simp;omega)
    have hsw:=hB.2.2
    rw[qcp hB.2.1 hB.1] at hsw
    have p1:k<N:=by omega
    have p2:k1<N:=by omega
    have p5:=eb D' k1 (by omega)
    have p6:=eb (D'.set k1 y) k (by simp;omega)
    rw[e1]
    simp (maxSteps:=mS) [-Prod.forall,hty,hsz,ed,-qb,q1]
    refine qg [] _ (k:=?_)
    repeat (first|refine qd _ (hs:=by simp (maxSteps:=mS) [hty,hsz,ed,-getElem?_pos,w2,p1,p2,p5,p6,g1,g2,r1,r2,s1,s2,hb];exact rfl) (k:=?_)|refine qaj (by rfl) (by rfl) ?_)
    refine qc ?_
    simp (maxSteps:=mS) [-Prod.forall,hty,hsz,ed,w2]
    exact⟨w,⟨by omega,by omega⟩,by omega,by omega,by rw[hsw]⟩
   ·obtain rfl:u=p:=by omega
    have e3:a+u=i:=by omega
    rw[e3]
    have hlow:=qcq (σ:=σ) (b:=b) (X:=rowE EE D) (lo _ (pre++(mrg c L [x]++post)))
    have e2:pre++(L.take u++x::(L.drop u++post))=pre++(mrg c L [x]++post):=by rw[hfin];simp
    rw[e2]
    obtain⟨X,hX⟩:∃X,rowE EE (pre++(mrg c L [x]++post))=X:=⟨_,rfl⟩
    rw[hX] at hlow ⊢
    simp (maxSteps:=mS) [-Prod.forall,hty,hsz,ed]
    rw[qo hlow]
end Go.Proofs.Tryz.Ai
end
