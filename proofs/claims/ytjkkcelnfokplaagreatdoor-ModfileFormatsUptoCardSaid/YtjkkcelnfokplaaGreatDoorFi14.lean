/- Part 14 of a proof: Go functions are evaluated on abstract values; no conditions beyond those of each theorem. -/
import Derived.Test.YtjkkcelnfokplaaGreatDoorFi13
set_option linter.all false
set_option maxHeartbeats 16000000
set_option maxRecDepth 4000
section
namespace Go.Proofs.Tryz.Ai
open Go Go.AI Go.Proofs
theorem qov {κ:K}:∀{EE:κ.d.α→List AV} {ty sz:Nat} (kk:KOk κ EE ty sz) {g:Nat} {c:κ.d.α→κ.d.α→Int} {Q:κ.d.α→Prop} (h:CmpOkK κ EE g c Q) (b:Nat) (σ:List (List AV)) (L:List κ.d.α) (n:Nat) (hL:∀x∈L,Q x) (hn:L.length=n) (hN:n≤2^30) (hb:b<σ.length),
  ev κ.d.fT [.ms ty sz b 0 n,.int .i64 n,.fn g []] (σ.set b (rowE EE L))=some (.tup [],σ.set b (rowE EE (isrt c L))):=by
 cases κ
 all_goals
  dsimp only[K.d]
  intro EE ty sz kk g c Q h b σ L n hL hn hN hb
  have qi:=@qja _ _ _ _ kk g c Q h
  have qm:=@qrj _ _ _ _ kk g c Q h
  unfold MrgOkK at qm
  have eg:=K.get kk
  have eb:=K.bnd kk
  have es:=K.set kk
  have ed:=K.dem kk
  have lo:=K.low kk
  obtain⟨hE,hty,hsz⟩:=kk
  dsimp only[K.d] at qi qm eg eb es ed lo hE hty hsz
  simp only[hty,hsz] at qi qm
 refine qk func124 ntmps124 ?_
 rotate_left
 refine qk func130 ntmps130 ?_
 rotate_left
 refine qk func126 ntmps126 ?_
 rotate_left
 refine qk func236 ntmps236 ?_
 rotate_left
 all_goals
  simp only[esQ,esT,esP,esM] at hE
  simp only[hE,List.cons_append,List.nil_append] at eg es
  simp (maxSteps:=mS) [-Prod.forall,hty,hsz,ed]
  refine qf (I:=fun q:Nat=>⟨[(0,.ms ty sz b 0 n),(1,.int .i64 n),(2,.fn g []),(6,.int .i64 20),(7,.int .i64 ((20*q:Nat):Int)),(8,.int .i64 ((20*q+20:Nat):Int))],[],σ.set b (rowE EE (blk c 20 (L.take (20*q))++L.drop (20*q)))⟩)
   (Pr:=fun q=>20*q≤n) (μ:=fun q=>n-20*q) (a:=0) (by simp[hty,hsz,qa1,isrt]) (by simp) ?_
  intro q hq
  obtain⟨a,ha⟩:∃a,20*q=a:=⟨_,rfl⟩
  rw[ha] at hq ⊢
  have hpl:(blk c 20 (L.take a)).length=a:=by rw[blk_len];simp;omega
  by_cases hc:a+20≤n
  ·have hX:L.drop a=(L.drop a).take 20++L.drop (a+20):=by rw[← List.drop_drop,List.take_append_drop]
   have hins:=qi b σ (blk c 20 (L.take a)) ((L.drop a).take 20) (L.drop (a+20)) (fun x hx=>hL x (List.mem_of_mem_drop (List.mem_of_mem_take hx))) n a (a+20) hN (by rw[hpl];simp;omega) hpl.symm (by simp;omega) hb
   rw[← hX,← List.append_assoc,← qni (by omega) q ha.symm (by omega)] at hins
   have w1:IntKind.i64.wrap (((a+20:Nat):Int)+20)=((a+20+20:Nat):Int):=by rw[qh (by omega)];omega
   obtain⟨a2,ha2⟩:∃z,a+20=z:=⟨_,rfl⟩
   rw[ha2] at hins w1 hc ⊢
   simp (maxSteps:=mS) [-Prod.forall,hty,hsz,ed,hc,hins,w1]
   refine⟨q+1,by omega,by omega,by omega,?_⟩
   rw[show 20*(q+1)=a2 by omega]
  ·obtain⟨a2,ha2⟩:∃z,a+20=z:=⟨_,rfl⟩
   have hins:=qi b σ (blk c 20 (L.take a)) (L.drop a) [] (fun x hx=>hL x (List.mem_of_mem_drop hx)) n a n hN (by rw[hpl];simp;omega) hpl.symm (by simp;omega) hb
   rw[List.append_nil,List.append_nil,← qnj (by omega) q ha.symm (by omega) (by omega)] at hins
   rw[ha2] at hc ⊢
   simp (maxSteps:=mS) [-Prod.forall,hty,hsz,ed,hc,hins]
   refine qf (I:=fun k:Nat=>⟨[(0,.ms ty sz b 0 n),(1,.int .i64 n),(2,.fn g []),(6,.int .i64 k)],[],σ.set b (rowE EE (blk c k L))⟩)
    (Pr:=fun k=>0<k∧k≤2^31) (μ:=fun k=>n-k) (a:=20) (by simp[hty,hsz]) (by simp) ?_
   clear hins hpl hc ha ha2 hq
   rintro k ⟨hk0,hk⟩
   by_cases hkn:k<n
   ·have w1:IntKind.i64.wrap (2*(k:Int))=((2*k:Nat):Int):=by rw[qh (by omega)];omega
    obtain⟨k2,hk2⟩:∃z,2*k=z:=⟨_,rfl⟩
    rw[hk2] at w1
    simp (maxSteps:=mS) [-Prod.forall,hty,hsz,ed,hkn,w1]
    refine qf (I:=fun q:Nat=>⟨[(0,.ms ty sz b 0 n),(1,.int .i64 n),(2,.fn g []),(6,.int .i64 k),(7,.int .i64 ((k2*q:Nat):Int)),(8,.int .i64 ((k2*q+k2:Nat):Int))],[],σ.set b (rowE EE (blk c k2 (L.take (k2*q))++blk c k (L.drop (k2*q))))⟩)
     (Pr:=fun q=>k2*q≤n) (μ:=fun q=>n-k2*q) (a:=0) (by simp[hty,hsz,qa1,isrt]) (by simp) ?_
    intro q hq
    obtain⟨a,ha⟩:∃a,k2*q=a:=⟨_,rfl⟩
    have hq1:k2*(q+1)=a+k2:=by rw[Nat.mul_succ,ha]
    rw[ha] at hq ⊢
    have hpl:(blk c k2 (L.take a)).length=a:=by rw[blk_len];simp;omega
    have hw3:IntKind.i64.wrap ((a:Int)+k)=((a+k:Nat):Int):=by rw[qh (by omega)];omega
    have hS1:=qbe h.tp ((L.drop a).take k)
    have hQ1:∀x∈isrt c ((L.drop a).take k),Q x:=fun x hx=>hL x (List.mem_of_mem_drop (List.mem_of_mem_take (qac.1 hx)))
    by_cases hc:a+k2≤n
    ·have e1:blk c k (L.drop a)=isrt c ((L.drop a).take k)++(isrt c ((L.drop (a+k)).take k)++blk c k (L.drop (a+k2))):=by
      rw[blk_step hk0,List.drop_drop,blk_step hk0 (L.drop (a+k)),List.drop_drop]
      congr 4;omega
     have hQ2:∀x∈isrt c ((L.drop (a+k)).take k),Q x:=fun x hx=>hL x (List.mem_of_mem_drop (List.mem_of_mem_take (qac.1 hx)))
     have hm:=qm _ b σ (blk c k2 (L.take a)) (isrt c ((L.drop a).take k)) (isrt c ((L.drop (a+k)).take k)) (blk c k (L.drop (a+k2))) n a (a+k) (a+k2) rfl hN (by rw[hpl,qp,qp,blk_len];simp;omega) hpl.symm (by rw[qp];simp;omega) (by rw[qp];simp;omega) (by rw[qp];simp;omega) (by rw[qp];simp;omega) hS1 (qbe h.tp _) hQ1 hQ2 hb
     rw[← e1,← qfu h.tp,← List.drop_drop,← List.take_add,← List.append_assoc,show k+k=k2 by omega,← qni (by omega) q ha.symm (by omega)] at hm
     obtain⟨m,hmm⟩:∃z,a+k=z:=⟨_,rfl⟩
     obtain⟨a2,ha2⟩:∃z,a+k2=z:=⟨_,rfl⟩
     have w4:IntKind.i64.wrap ((a2:Int)+k2)=((a2+k2:Nat):Int):=by rw[qh (by omega)];omega
     rw[hmm,ha2] at hm
     rw[hmm] at hw3
     rw[ha2] at hc hq1 ⊢
     simp (maxSteps:=mS) [-Prod.forall,hty,hsz,ed,hc,hm,hw3,w1,w4]
     refine⟨q+1,by omega,by omega,by rw[← hq1];simp,?_⟩
     rw[hq1]
    ·obtain⟨a2,ha2⟩:∃z,a+k2=z:=⟨_,rfl⟩
     rw[ha2] at hc ⊢
     have w5:IntKind.i64.wrap ((k:Int)*2)=(k2:Int):=by rw[qh (by omega)];omega
     have hfin:blk c k2 L=blk c k2 (L.take a)++isrt c (L.drop a):=qnj (by omega) q ha.symm (by omega) (by omega)
     obtain⟨m,hmm⟩:∃z,a+k=z:=⟨_,rfl⟩
     rw[hmm] at hw3
     by_cases hmn:m<n
     ·have e1:blk c k (L.drop a)=isrt c ((L.drop a).take k)++isrt c (L.drop m):=by
       rw[blk_step hk0,List.drop_drop,hmm,qa1 (L:=L.drop m) (by simp;omega)]
      have hQ2:∀x∈isrt c (L.drop m),Q x:=fun x hx=>hL x (List.mem_of_mem_drop (qac.1 hx))
      have hm:=qm _ b σ (blk c k2 (L.take a)) (isrt c ((L.drop a).take k)) (isrt c (L.drop m)) [] n a m n rfl hN (by rw[hpl,qp,qp];simp;omega) hpl.symm (by rw[qp];simp;omega) (by rw[qp];simp;omega) (by rw[qp];simp;omega) (by rw[qp];simp;omega) hS1 (qbe h.tp _) hQ1 hQ2 hb
      rw[List.append_nil,List.append_nil,← e1,← qfu h.tp,← hmm,← List.drop_drop,List.take_append_drop,hmm,← hfin] at hm
      simp (maxSteps:=mS) [-Prod.forall,hty,hsz,ed,hc,hm,hw3,hmn,w5]
      exact⟨k2,by omega,by omega,rfl,rfl⟩
     ·have e1:blk c k2 (L.take a)++blk c k (L.drop a)=blk c k2 L:=by rw[hfin,qa1 (L:=L.drop a) (by simp;omega)]
      rw[e1]
      simp (maxSteps:=mS) [-Prod.forall,hty,hsz,ed,hc,hw3,hmn,w5]
      exact⟨k2,by omega,by omega,rfl,rfl⟩
   ·rw[qa1 (by omega)]
    simp (maxSteps:=mS) [-Prod.forall,hty,hsz,ed,hkn,results124,results130,results126,results236]
theorem qa9 {κ:K}:∀{EE:κ.d.α→List AV} {ty sz:Nat} (kk:KOk κ EE ty sz) {g:Nat} {c:κ.d.α→κ.d.α→Int} {Q:κ.d.α→Prop} (h:CmpOkK κ EE g c Q) (b:Nat) (σ:List (List AV)) (L:List κ.d.α) (n:Nat) (hL:∀x∈L,Q x) (hn:L.length=n) (hN:n≤2^30) (hb:b<σ.length),
  ev κ.d.fA [.ms ty sz b 0 n,.fn g []] (σ.set b (rowE EE L))=some (.tup [],σ.set b (rowE EE (isrt c L))):=by
 cases κ
 all_goals
  dsimp only[K.d]
  intro EE ty sz kk g c Q h b σ L n hL hn hN hb
  have h1:=qov kk h b σ L n hL hn hN hb
  have eg:=K.get kk
  have eb:=K.bnd kk
  have es:=K.set kk
  have ed:=K.dem kk
  have lo:=K.low kk
  obtain⟨hE,hty,hsz⟩:=kk
  dsimp only[K.d] at eg eb es ed lo hE hty hsz
  dsimp only[K.d] at h1
  simp only[hty,hsz] at h1
 refine qk func57 ntmps57 ?_
 rotate_left
 refine qk func64 ntmps64 ?_
 rotate_left
 refine qk func60 ntmps60 ?_
 rotate_left
 refine qk func184 ntmps184 ?_
 rotate_left
 all_goals
  simp only[esQ,esT,esP,esM] at hE
  simp only[hE,List.cons_append,List.nil_append] at eg es
  simp (maxSteps:=mS) [-Prod.forall,hty,hsz,ed,h1,results57,results64,results60,results184]
end Go.Proofs.Tryz.Ai
end
