/- Part 40 of a proof: Go functions are evaluated on abstract values; no conditions beyond those of each theorem. -/
import Derived.Test.YtjkkcelnfokplaaGreatDoorFi37
import Derived.Test.YtjkkcelnfokplaaGreatDoorFi39
set_option linter.all false
set_option maxHeartbeats 16000000
set_option maxRecDepth 4000
section
namespace Go.Proofs.Tryz.Ai
open Go Go.AI Go.Proofs
abbrev Md:=List UInt8×List UInt8
abbrev MfT:=List UInt8×List UInt8×List (List UInt8×List UInt8×Bool)×List (List UInt8×List UInt8)×List ((List UInt8×List UInt8)×List UInt8×List UInt8)×List (List UInt8×List UInt8)
def mfO (x:MfT):Mf:=⟨x.1,x.2.1,x.2.2.1,x.2.2.2.1,x.2.2.2.2.1,x.2.2.2.2.2⟩
structure MfSm (f:Mf):Prop where
 m:f.m.length≤1048576
 g:f.g.length≤1048576
 lq:f.rq.length≤1048576
 le:f.ex.length≤1048576
 lp:f.rp.length≤1048576
 lt:f.rt.length≤1048576
 rq:∀x∈f.rq,x.1.length+x.2.1.length≤1048576
 ex:∀x∈f.ex,x.1.length+x.2.length≤1048576
 rp:∀x∈f.rp,x.1.1.length+x.1.2.length+(x.2.1.length+x.2.2.length)≤1048576
 rt:∀x∈f.rt,x.1.length+x.2.length≤1048576
def replB (rp:List Rp) (m:Md):Md:=match rp.find? (fun x=>isM m x.1) with
 | some x=>x.2
 | none=>match rp.find? (fun x=>isM (m.1,[]) x.1) with
  | some x=>x.2
  | none=>m
theorem fixA_nof {K:List Rp} {p:Rp→Bool} (h:K.find? p=none):fixA K p=-1:=by
 unfold fixA
 rw[if_neg]
 rw[List.find?_eq_none] at h
 simp only[List.any_eq_true,not_exists,not_and]
 exact fun x hx=>h x hx
theorem fixA_some {K:List Rp} {p:Rp→Bool} {x:Rp} (h:K.find? p=some x):∃i:Nat,fixA K p=(i:Int)∧K[i]? = some x:=by
 have hm:=List.mem_of_find?_eq_some h
 have hp:=List.find?_some h
 refine⟨K.findIdx p,?_,?_⟩
 ·unfold fixA
  rw[if_pos (List.any_eq_true.2 ⟨x,hm,hp⟩)]
 ·rw[List.find?_eq_some_iff_getElem] at h
  obtain⟨_,i,hi,hx,hlt⟩:=h
  have hf:K.findIdx p=i:=by
   rw[List.findIdx_eq hi]
   exact⟨by rw[hx];exact hp,fun j hj=>by simpa using hlt j hj⟩
  rw[hf,List.getElem?_eq_getElem hi,hx]
def rplI (rp:List Rp) (m:Md) (i:Nat):Prop:=i≤2∧(1≤i→rp.find? (fun x=>isM m x.1)=none)∧(2≤i→rp.find? (fun x=>isM (m.1,[]) x.1)=none)
theorem qmp (f:Mf) (hl:f.rp.length≤2^30) (m:Md) (σ:List (List AV)):ev 27 [mfF f,modA m] σ=some (modA (replB f.rp m),σ):=by
 obtain⟨fm,fg,rq,ex,rp,rt⟩:=f
 obtain⟨m1,m2⟩:=m
 simp only at hl
 rw[mfFx,modAx]
 simp only
 obtain⟨LQ,hLQ⟩:∃L,rq.map rqF=L:=⟨_,rfl⟩
 obtain⟨LM,hLM⟩:∃L,ex.map modA=L:=⟨_,rfl⟩
 obtain⟨LP,hLP⟩:∃L,rp.map rpF=L:=⟨_,rfl⟩
 obtain⟨LT,hLT⟩:∃L,rt.map rtF=L:=⟨_,rfl⟩
 rw[hLQ,hLM,hLP,hLT]
 have hR:replB rp (m1,m2)=match rp.find? (fun x=>isM (m1,m2) x.1) with
  | some x=>x.2
  | none=>match rp.find? (fun x=>isM (m1,[]) x.1) with
   | some x=>x.2
   | none=>(m1,m2):=rfl
 refine qk func27 ntmps27 ?_
 simp (maxSteps:=mS) [-Prod.exists,-Prod.forall]
 refine qf (I:=fun q:Nat×List (List AV)=>⟨[(2,.lp 2 0),(3,.lp 3 0),(4,.lp 4 0),(12,.sl (.ex 52 2) [.agg [.str m1,.str m2],.agg [.str m1,.str []]]),(13,.int .i64 2),(14,.int .i64 q.1)],[(2,[.str fm,.str fg,.sl .sh LQ,.sl .sh LM,.sl .sh LP,.sl .sh LT]),(3,[.str m1,.str m2]),(4,[.str [],.str []])],σ++q.2⟩)
  (Pr:=fun q=>rplI rp (m1,m2) q.1) (μ:=fun q=>2-q.1) (a:=(0,[])) (by simp) ⟨by omega,by simp,by simp⟩ ?_
 rintro⟨i,J⟩ ⟨hi,h1,h2⟩
 simp only at hi h1 h2 ⊢
 obtain⟨S,hS⟩:∃S,σ++J=S:=⟨_,rfl⟩
 rw[hS]
 have hi3:i=0∨i=1∨i=2:=by omega
 rcases hi3 with rfl|rfl|rfl
 ·have hO:=qjf (m1,m2) S
  have hI:=qcs rp hl 160 (by decide) [.gp S.length 0 (some (52,2))] rfl (fun x=>isM (m1,m2) x.1) (S++[[.str m1,.str m2]]) (fun k hk=>qgw (m1,m2) S.length _ k _ (by simp))
  rw[modAx] at hO
  rw[hLP] at hI
  simp only at hO hI
  cases hq:rp.find? (fun x=>isM (m1,m2) x.1) with
  | some x =>
   obtain⟨k,hk1,hk2⟩:=fixA_some hq
   have hRx:replB rp (m1,m2)=x.2:=by rw[hR];simp only[hq]
   rw[hk1] at hI
   obtain⟨⟨x1,x2⟩,x3,x4⟩:=x
   have hxL:LP[k]? = some (.agg [.str x1,.str x2,.str x3,.str x4]):=by rw[← hLP,List.getElem?_map,hk2];rfl
   simp only at hRx
   simp (maxSteps:=mS) [-getElem?_pos,-Prod.exists,-Prod.forall,-qb]
   refine qg [] _ (k:=?_)
   repeat (first|refine qd _ (hs:=by simp (maxSteps:=mS) [-getElem?_pos,hO,hI];exact rfl) (k:=?_)|refine qe _ (k:=?_))
   refine qc ?_
   simp (maxSteps:=mS) [-getElem?_pos,-Prod.exists,-Prod.forall,hI,hxL,hRx,modAx,← hS,results27]
  | none =>
   have hk:=fixA_nof hq
   rw[hk] at hI
   simp (maxSteps:=mS) [-getElem?_pos,-Prod.exists,-Prod.forall,-qb]
   refine qg [] _ (k:=?_)
   repeat (first|refine qd _ (hs:=by simp (maxSteps:=mS) [-getElem?_pos,hO,hI];exact rfl) (k:=?_)|refine qe _ (k:=?_))
   refine qc ?_
   have w1:IntKind.i64.wrap 1=1:=qh (by omega)
   simp (maxSteps:=mS) [-getElem?_pos,-Prod.exists,-Prod.forall,hI,w1]
   exact⟨(0+1,J++[[.str m1,.str m2]]),⟨by omega,fun _=>hq,fun h=>by simp at h⟩,by omega,by simp[← hS]⟩
 ·have hO:=qjf (m1,[]) S
  have hI:=qcs rp hl 160 (by decide) [.gp S.length 0 (some (52,2))] rfl (fun x=>isM (m1,[]) x.1) (S++[[.str m1,.str []]]) (fun k hk=>qgw (m1,[]) S.length _ k _ (by simp))
  rw[modAx] at hO
  rw[hLP] at hI
  simp only at hO hI
  cases hq:rp.find? (fun x=>isM (m1,[]) x.1) with
  | some x =>
   obtain⟨k,hk1,hk2⟩:=fixA_some hq
   have hRx:replB rp (m1,m2)=x.2:=by rw[hR];rw[h1 (by omega)];simp only[hq]
   rw[hk1] at hI
   obtain⟨⟨x1,x2⟩,x3,x4⟩:=x
   have hxL:LP[k]? = some (.agg [.str x1,.str x2,.str x3,.str x4]):=by rw[← hLP,List.getElem?_map,hk2];rfl
   simp only at hRx
   simp (maxSteps:=mS) [-getElem?_pos,-Prod.exists,-Prod.forall,-qb]
   refine qg [] _ (k:=?_)
   repeat (first|refine qd _ (hs:=by simp (maxSteps:=mS) [-getElem?_pos,hO,hI];exact rfl) (k:=?_)|refine qe _ (k:=?_))
   refine qc ?_
   simp (maxSteps:=mS) [-getElem?_pos,-Prod.exists,-Prod.forall,hI,hxL,hRx,modAx,← hS,results27]
  | none =>
   have hk:=fixA_nof hq
   rw[hk] at hI
   simp (maxSteps:=mS) [-getElem?_pos,-Prod.exists,-Prod.forall,-qb]
   refine qg [] _ (k:=?_)
   repeat (first|refine qd _ (hs:=by simp (maxSteps:=mS) [-getElem?_pos,hO,hI];exact rfl) (k:=?_)|refine qe _ (k:=?_))
   refine qc ?_
   have w1:IntKind.i64.wrap 2=2:=qh (by omega)
   simp (maxSteps:=mS) [-getElem?_pos,-Prod.exists,-Prod.forall,hI,w1]
   exact⟨(1+1,J++[[.str m1,.str []]]),⟨by omega,fun _=>h1 (by omega),fun _=>hq⟩,by omega,by simp[← hS]⟩
 ·have hRx:replB rp (m1,m2)=(m1,m2):=by rw[hR,h1 (by omega),h2 (by omega)]
  simp (maxSteps:=mS) [hRx,modAx,← hS,results27]
end Go.Proofs.Tryz.Ai
end
section
namespace Go.Proofs.Tryz.Ai
open Go Go.AI Go.Proofs
theorem MfSm.B {f:Mf} (h:MfSm f):MfB f∧MfS f:=by
 obtain⟨h1,h2,h3,h4,h5,h6,h7,h8,h9,h10⟩:=h
 refine⟨⟨by omega,by omega,by omega,by omega,by omega,by omega,fun x hx=>?_,fun x hx=>?_,fun x hx=>?_,fun x hx=>?_⟩,⟨by omega,by omega,fun x hx=>?_,fun x hx=>?_,fun x hx=>?_,fun x hx=>?_⟩⟩
 ·have:=h7 x hx;omega
 ·have:=h8 x hx;exact⟨by omega,by omega⟩
 ·have:=h9 x hx;exact⟨⟨by omega,by omega⟩,⟨by omega,by omega⟩⟩
 ·have:=h10 x hx;exact⟨by omega,by omega⟩
 ·have:=h7 x hx;exact⟨by simp only;omega,by simp only;omega⟩
 ·have:=h8 x hx;exact⟨by omega,by omega⟩
 ·have:=h9 x hx;exact⟨⟨by omega,by omega⟩,⟨by omega,by omega⟩⟩
 ·have:=h10 x hx;exact⟨by omega,by omega⟩
theorem qg5 (a:Mf):alikeB a a=true:=qfa.2 rfl
end Go.Proofs.Tryz.Ai
end
section
namespace Go.Proofs.Tryz.Ai
open Go Go.AI Go.Proofs
theorem fixA_nofG {α:Type} {K:List α} {p:α→Bool} (h:K.find? p=none):fixA K p=-1:=by
 unfold fixA
 rw[if_neg]
 rw[List.find?_eq_none] at h
 simp only[List.any_eq_true,not_exists,not_and]
 exact fun x hx=>h x hx
theorem fixA_someG {α:Type} {K:List α} {p:α→Bool} {x:α} (h:K.find? p=some x):∃i:Nat,fixA K p=(i:Int)∧K[i]? = some x:=by
 have hm:=List.mem_of_find?_eq_some h
 have hp:=List.find?_some h
 refine⟨K.findIdx p,?_,?_⟩
 ·unfold fixA
  rw[if_pos (List.any_eq_true.2 ⟨x,hm,hp⟩)]
 ·rw[List.find?_eq_some_iff_getElem] at h
  obtain⟨_,i,hi,hx,hlt⟩:=h
  have hf:K.findIdx p=i:=by
   rw[List.findIdx_eq hi]
   exact⟨by rw[hx];exact hp,fun j hj=>by simpa using hlt j hj⟩
  rw[hf,List.getElem?_eq_getElem hi,hx]
theorem qo7 (f:Mf) (hl:f.rq.length≤2^29) (p:List UInt8) (σ:List (List AV)):ev 21 [mfF f,.str p] σ=some (.tup [.str ((verQ f.rq p).getD []),.bool (verQ f.rq p).isSome],σ):=by
 have hO:=qep p σ
 have hI:=qeo f.rq (by omega) 132 (by decide) [.gp σ.length 0 (some (9,1))] (by simp[args,arg,dem]) (isQ p) (σ++[[.str p]]) (fun y _=>qdv p _ _ y _ (by simp))
 rw[mfFx]
 obtain⟨LQ,hLQ⟩:∃L,f.rq.map rqF=L:=⟨_,rfl⟩
 cases hq:f.rq.find? (isQ p) with
 | none =>
  rw[fixA_nofG hq] at hI
  have hv:verQ f.rq p=none:=by unfold verQ;rw[hq];rfl
  rw[hv]
  rw[hLQ] at hI ⊢
  refine qk func21 ntmps21 ?_
  simp (maxSteps:=mS) [-qb]
  refine qg [] _ (k:=?_)
  repeat (first|refine qd _ (hs:=by simp (maxSteps:=mS) [hO,hI];exact rfl) (k:=?_)|refine qe _ (k:=?_))
  refine qc ?_
  simp (maxSteps:=mS) [results21]
 | some x =>
  obtain⟨i,h1,h2⟩:=fixA_someG hq
  rw[h1] at hI
  have hv:verQ f.rq p=some x.2.1:=by unfold verQ;rw[hq];rfl
  rw[hv]
  have hxL:LQ[i]? = some (.agg [.str x.1,.str x.2.1,.bool x.2.2]):=by rw[← hLQ,List.getElem?_map,h2];rfl
  have hi:i<LQ.length:=(List.getElem?_eq_some_iff.1 hxL).1
  rw[hLQ] at hI ⊢
  refine qk func21 ntmps21 ?_
  simp (maxSteps:=mS) [-getElem?_pos,-qb]
  refine qg [] _ (k:=?_)
  repeat (first|refine qd _ (hs:=by simp (maxSteps:=mS) [hO,hI];exact rfl) (k:=?_)|refine qe _ (k:=?_))
  refine qc ?_
  simp (maxSteps:=mS) [-getElem?_pos,hi,hxL,results21]
end Go.Proofs.Tryz.Ai
end
section
namespace Go.Proofs.Tryz.Ai
open Go Go.AI Go.Proofs
theorem MfB.canon {f:Mf} (h:MfB f):MfB (canonM f):=⟨h.m,h.g,by simp only[canonM,qp];exact h.lq,by simp only[canonM,qp];exact h.le,by simp only[canonM,qp];exact h.lp,by simp only[canonM,qp];exact h.lt,
 fun x hx=>h.rq x (qac.1 hx),fun x hx=>h.ex x (qac.1 hx),fun x hx=>h.rp x (qac.1 hx),fun x hx=>h.rt x (qac.1 hx)⟩
theorem qnw {g:AV→Option AV}:∀{a b a' b':List AV},mapO g a=some a'→mapO g b=some b'→mapO g (a++b)=some (a'++b')
 | [],b,a',b',h1,h2=>by
  simp only[mapO,Option.some.injEq] at h1
  subst h1;exact h2
 | x::r,b,a',b',h1,h2=>by
  simp only[mapO] at h1
  obtain⟨y,h3,h1⟩:=qa h1
  obtain⟨l,h4,h1⟩:=qa h1
  injection h1 with h1;subst h1
  have:=qnw h4 h2
  simp only[List.cons_append,mapO,h3,this,bnd]
theorem flat_rowE {α:Type} {E:α→List AV} {s:List (List AV)} {d:Nat} (hE:∀x,mapO (flatV s d) (E x)=some (E x)):∀l:List α,mapO (flatV s d) (rowE E l)=some (rowE E l)
 | []=>rfl
 | x::r=>by
  have e:rowE E (x::r)=E x++rowE E r:=rfl
  rw[e];exact qnw (hE x) (flat_rowE hE r)
theorem flat_msE {α:Type} {E:α→List AV} {F:α→AV} {sz:Nat} {s:List (List AV)} {t b d:Nat} {l:List α} (hF:∀x,F x=.agg (E x)) (hl:∀x,(E x).length=sz) (hd:∀x,(E x).map dem=E x) (h1:1<sz)
  (hE:∀x,mapO (flatV s d) (E x)=some (E x)) (h:s[b]? = some (rowE E l)):flatV s (d+1) (.ms t sz b 0 l.length)=some (.sl .sh (l.map F)):=by
 have hL:=qei (E:=E) (sz:=sz) hl l
 have h2:¬(sz=1∧0+l.length≤(rowE E l).length):=fun h=>by omega
 have h3:1<sz∧0+l.length*sz≤(rowE E l).length:=⟨h1,by omega⟩
 have h4:((rowE E l).drop 0).take (l.length*sz)=rowE E l:=by rw[List.drop_zero,List.take_of_length_le (by omega)]
 rw[flatV,h,bnd,if_neg h2,if_pos h3,h4,flat_rowE hE,bnd]
 congr 2
 unfold aggs
 apply List.ext_getElem?
 intro i
 by_cases hi:i<l.length
 ·obtain⟨x,hx⟩:=getS hi
  have:=(qe4 (E:=E) (sz:=sz) hl hx).2
  have h5:((rowE E l).drop (i*sz)).take sz=E x:=by rw[this,← hl x,List.take_left]
  rw[List.getElem?_map,List.getElem?_range hi,List.getElem?_map,hx]
  simp only[Option.map_some,h5,hF]
 ·rw[List.getElem?_eq_none (by simpa using Nat.le_of_not_lt hi),List.getElem?_eq_none (by simpa using Nat.le_of_not_lt hi)]
theorem BxO.flat {α:Type} {E:α→List AV} {F:α→AV} {sz t n d:Nat} {S:List (List AV)} {v:AV} {l:List α} (h:BxO E t sz n S v l) (hF:∀x,F x=.agg (E x)) (hl:∀x,(E x).length=sz) (hd:∀x,(E x).map dem=E x) (h1:1<sz)
  (hE:∀x,mapO (flatV S d) (E x)=some (E x)):flatV S (d+1) v=some (.sl .sh (l.map F)):=by
 rcases h with ⟨rfl,rfl⟩|⟨_,b,rfl,_,hb⟩
 ·rfl
 ·exact flat_msE hF hl hd h1 hE hb
theorem flat_sl {α:Type} {F:α→AV} {E:α→List AV} {S:List (List AV)} {d:Nat} (hF:∀x,F x=.agg (E x)) (hE:∀x,mapO (flatV S d) (E x)=some (E x)) (l:List α):flatV S (d+2) (.sl .sh (l.map F))=some (.sl .sh (l.map F)):=by
 have h:∀x,flatV S (d+1) (F x)=some (F x):=fun x=>by rw[hF,flatV,hE,bnd]
 simp only[flatV,que h,bnd]
theorem flat_mf (S:List (List AV)) (f:Mf):flatV S 8 (mfF f)=some (mfF f):=by
 have hs:∀x:List UInt8,flatV S 7 (.str x)=some (.str x):=fun _=>rfl
 rw[mfFx,flatV]
 simp only[mapO,hs,flat_sl (E:=esQ) (F:=rqF) (S:=S) (d:=5) (fun _=>rfl) (fun _=>rfl),flat_sl (E:=esM) (F:=modA) (S:=S) (d:=5) (fun _=>rfl) (fun _=>rfl),flat_sl (E:=esP) (F:=rpF) (S:=S) (d:=5) (fun _=>rfl) (fun _=>rfl),flat_sl (E:=esT) (F:=rtF) (S:=S) (d:=5) (fun _=>rfl) (fun _=>rfl),bnd]
theorem CnB.flat {σ:List (List AV)} {f:Mf} {S:List (List AV)} {vQ vM vP vT:AV} (bQ:BxO esQ 41 3 σ.length S vQ f.rq) (bM:BxO esM 52 2 σ.length S vM f.ex) (bP:BxO esP 54 4 σ.length S vP f.rp) (bT:BxO esT 50 2 σ.length S vT f.rt) :
  flatV S 8 (.agg [.str f.m,.str f.g,vQ,vM,vP,vT])=some (mfF f):=by
 have hs:∀x:List UInt8,flatV S 7 (.str x)=some (.str x):=fun _=>rfl
 rw[mfFx,flatV]
 simp only[mapO,hs,BxO.flat (d:=6) bQ (F:=rqF) (fun _=>rfl) (fun _=>rfl) (fun _=>rfl) (by decide) (fun _=>rfl),BxO.flat (d:=6) bM (F:=modA) (fun _=>rfl) (fun _=>rfl) (fun _=>rfl) (by decide) (fun _=>rfl),BxO.flat (d:=6) bP (F:=rpF) (fun _=>rfl) (fun _=>rfl) (fun _=>rfl) (by decide) (fun _=>rfl),BxO.flat (d:=6) bT (F:=rtF) (fun _=>rfl) (fun _=>rfl) (fun _=>rfl) (by decide) (fun _=>rfl),bnd]
def wrI (σ S:List (List AV)) (o:List (Nat×Nat)):Prop:=S.take σ.length=σ∧∀p∈o,σ.length≤p.1∧∃C,S[p.1]? = some C∧C.length=p.2
theorem wrI.set {σ S:List (List AV)} {o:List (Nat×Nat)} (h:wrI σ S o) {b:Nat} {C':List AV} (hb:σ.length≤b) (hlt:b<S.length) (hn:∀p∈o,p.1=b→C'.length=p.2):wrI σ (S.set b C') o:=by
 refine⟨by rw[List.take_set_of_le hb];exact h.1,fun p hp=>?_⟩
 obtain⟨h1,C,h2,h3⟩:=h.2 p hp
 refine⟨h1,?_⟩
 by_cases e:p.1=b
 ·exact⟨C',by rw[e,List.getElem?_set,if_pos rfl,if_pos hlt],hn p hp e⟩
 ·exact⟨C,by rw[List.getElem?_set,if_neg (fun q=>e q.symm)];exact h2,h3⟩
theorem wrI.low {σ S:List (List AV)} {o:List (Nat×Nat)} (h:wrI σ S o):lowS σ S:=fun b hb=>.inl (by
 have:=congrArg (fun l:List (List AV)=>l[b]?) h.1
 simp only[List.getElem?_take,if_pos hb] at this
 exact this)
theorem wrI.same {σ S:List (List AV)} {o:List (Nat×Nat)} (h:wrI σ S o) {b:Nat} {C C':List AV} (hC:S[b]? = some C) (hl:C'.length=C.length):∀p∈o,p.1=b→C'.length=p.2:=by
 intro p hp hq
 obtain⟨_,C2,h2,h3⟩:=h.2 p hp
 rw[hq,hC] at h2;injection h2 with h2;rw[hl,h2,h3]
def upI (n i:Nat) (σ S:List (List AV)) (o:List (Nat×Nat)):Prop:=i≤n∧wrI σ S o
theorem BxO.cases {α:Type} {E:α→List AV} {sz t n:Nat} {S:List (List AV)} {v:AV} {l:List α} (h:BxO E t sz n S v l) (hl:∀x,(E x).length=sz):(l.length=0∧v=.sl .sh [])∨∃b,v=.ms t sz b 0 l.length∧n≤b∧∃C,S[b]? = some C∧C.length=l.length*sz:=by
 rcases h with ⟨rfl,rfl⟩|⟨_,b,rfl,h1,hb⟩
 ·exact .inl ⟨rfl,rfl⟩
 ·exact .inr ⟨b,rfl,h1,_,hb,qei hl l⟩
end Go.Proofs.Tryz.Ai
end
section
namespace Go.Proofs.Tryz.Ai
open Go Go.AI Go.Proofs
theorem find_at {α:Type} {L:List α} {q:α→Bool} {i:Nat} {x:α} (h:(L.take i).find? q=none) (hx:L[i]? = some x) (hq:q x=true):L.find? q=some x:=by
 have e:L=L.take i++x::L.drop (i+1):=by
  obtain⟨h1,h2⟩:=List.getElem?_eq_some_iff.1 hx
  rw[← h2,← List.drop_eq_getElem_cons h1,List.take_append_drop]
 rw[e,List.find?_append,h,List.find?_cons,hq];rfl
theorem find_next {α:Type} {L:List α} {q:α→Bool} {i:Nat} {x:α} (h:(L.take i).find? q=none) (hx:L[i]? = some x) (hq:q x=false):(L.take (i+1)).find? q=none:=by
 rw[List.take_add_one,hx,List.find?_append,h]
 simp[hq]
def fnI {α:Type} (L:List α) (q:α→Bool) (i:Nat):Prop:=i≤L.length∧(L.take i).find? q=none
theorem find_end {α:Type} {L:List α} {q:α→Bool} {i:Nat} (h:(L.take i).find? q=none) (hi:L.length≤i):L.find? q=none:=by
 rwa [List.take_of_length_le hi] at h
theorem qmu (f:Mf) (hl:f.rq.length≤2^29) (p:List UInt8) (σ:List (List AV)):ev 22 [mfF f,.str p] σ=some (.tup [.str ((verQ f.rq p).getD []),.bool (verQ f.rq p).isSome],σ):=by
 have hV:verQ f.rq p=(f.rq.find? (isQ p)).map (·.2.1):=rfl
 have hx:∀{i:Nat} {x:Rq},f.rq[i]? = some x→(f.rq.map rqF)[i]? = some (.agg [.str x.1,.str x.2.1,.bool x.2.2]):=fun h=>by rw[List.getElem?_map,h];rfl
 have hq:f.rq.length=(f.rq.map rqF).length:=by simp
 rw[mfFx]
 obtain⟨LQ,hLQ⟩:∃L,f.rq.map rqF=L:=⟨_,rfl⟩
 rw[hLQ] at hx hq ⊢
 refine qk func22 ntmps22 ?_
 simp (maxSteps:=mS) [-Prod.forall,-Prod.exists]
 refine qf (I:=fun i:Nat=>⟨[(1,.str p),(2,.lp 2 0),(6,.int .i64 i)],[(2,[.str f.m,.str f.g,.sl .sh LQ,.sl .sh (f.ex.map modA),.sl .sh (f.rp.map rpF),.sl .sh (f.rt.map rtF)])],σ⟩) (Pr:=fun i=>fnI f.rq (isQ p) i) (μ:=fun i=>f.rq.length-i) (a:=0) (by simp) ⟨Nat.zero_le _,by simp⟩ ?_
 rintro i ⟨hi,hn⟩
 by_cases hc:i<f.rq.length
 ·have hcL:i<LQ.length:=by omega
  obtain⟨x,h1⟩:=getS hc
  have h2:=hx h1
  have w1:=wr1 i (by omega)
  by_cases hp:x.1=p
  ·have:=find_at hn h1 (qsk.2 hp)
   rw[hV,this]
   simp (maxSteps:=mS) [-getElem?_pos,-Prod.forall,-Prod.exists,hcL,h2,hp,results22]
  ·have hp2:isQ p x=false:=by rw[← Bool.not_eq_true];exact fun h=>hp (qsk.1 h)
   have:=find_next hn h1 hp2
   simp (maxSteps:=mS) [-getElem?_pos,-Prod.forall,-Prod.exists,hcL,h2,hp,w1]
   exact⟨i+1,⟨by omega,this⟩,by omega,by simp⟩
 ·have hcL:¬i<LQ.length:=by omega
  rw[hV,find_end hn (by omega)]
  simp (maxSteps:=mS) [hcL,results22]
def prnB (g:List UInt8):Bool:=decide (17≤minorD g)
theorem qsp {s:List UInt8} {k:Nat} (h:minorB s=some k):minorV s=k:=by
 by_cases hx:∃v,Lib.atoiAll (s.drop 2)=.ok v
 ·obtain⟨v,he⟩:=hx
  have h1:=qib he
  rw[h] at h1
  split at h1
  ·rename_i hp
   split at h1
   ·rename_i hv
    injection h1 with h1
    unfold minorV minorN
    rw[if_pos hp,he]
    simp only
    omega
   ·cases h1
  ·cases h1
 ·have h1:=qic (s:=s) (fun v hv=>hx ⟨v,hv⟩)
  rw[h] at h1;cases h1
theorem qsq (f:Mf) (hg:f.g.length≤2^29) (σ:List (List AV)):ev 25 [mfF f] σ=some (.bool (prnB f.g),σ):=by
 have hM:=fun σ=>qnp f.g hg σ
 have hP:prnB f.g=decide (17≤minorD f.g):=rfl
 rw[mfFx]
 refine qk func25 ntmps25 ?_
 cases hm:minorB f.g with
 | none =>
  have hd:minorD f.g=-1:=by unfold minorD;rw[hm]
  rw[hm] at hM
  rw[hP,hd]
  simp (maxSteps:=mS) [hM,results25]
 | some k =>
  have hd:minorD f.g=k:=by unfold minorD;rw[hm]
  rw[hm,qsp hm] at hM
  rw[hP,hd]
  simp (maxSteps:=mS) [hM,results25]
theorem qpd (f:Mf) (hg:f.g.length≤2^29) (σ:List (List AV)):ev 26 [mfF f] σ=some (.bool (prnB f.g),σ):=by
 have hM:=fun σ=>qk6 f.g hg σ
 have hP:prnB f.g=decide (17≤minorD f.g):=rfl
 rw[mfFx,hP]
 refine qk func26 ntmps26 ?_
 simp (maxSteps:=mS) [hM,results26]
theorem qmv (m x:Md):isM m x=(x.1==m.1&&x.2==m.2):=rfl
theorem qsr (a:List UInt8) (x:Md):isM (a,[]) x=(x.1==a&&x.2.isEmpty):=by
 rw[qmv]
 cases x.2<;>rfl
theorem qk9 (f:Mf) (hl:f.rp.length≤2^29) (m:Md) (σ:List (List AV)):ev 28 [mfF f,modA m] σ=some (modA (replB f.rp m),σ):=by
 have hx:∀{i:Nat} {x:Rp},f.rp[i]? = some x→(f.rp.map rpF)[i]? = some (.agg [.str x.1.1,.str x.1.2,.str x.2.1,.str x.2.2]):=fun h=>by rw[List.getElem?_map,h];rfl
 have hq:f.rp.length=(f.rp.map rpF).length:=by simp
 have hR1:∀x,f.rp.find? (fun x=>isM m x.1)=some x→replB f.rp m=x.2:=fun x h=>by unfold replB;rw[h]
 have hR2:∀x,f.rp.find? (fun x=>isM m x.1)=none→f.rp.find? (fun x=>isM (m.1,[]) x.1)=some x→replB f.rp m=x.2:=fun x h h'=>by unfold replB;rw[h,h']
 have hR3:f.rp.find? (fun x=>isM m x.1)=none→f.rp.find? (fun x=>isM (m.1,[]) x.1)=none→replB f.rp m=m:=fun h h'=>by unfold replB;rw[h,h']
 generalize replB f.rp m=R at *
 obtain⟨m1,m2⟩:=m
 obtain⟨R1,R2⟩:=R
 rw[mfFx,modAx,modAx]
 obtain⟨LP,hLP⟩:∃L,f.rp.map rpF=L:=⟨_,rfl⟩
 rw[hLP] at hx hq ⊢
 simp only at hR1 hR2 hR3 ⊢
 refine qk func28 ntmps28 ?_
 simp (maxSteps:=mS) [-Prod.forall,-Prod.exists]
 refine qf (I:=fun i:Nat=>⟨[(2,.lp 2 0),(3,.lp 3 0),(4,.lp 4 0),(5,.int .i64 i)],[(2,[.str f.m,.str f.g,.sl .sh (f.rq.map rqF),.sl .sh (f.ex.map modA),.sl .sh LP,.sl .sh (f.rt.map rtF)]),(3,[.str m1,.str m2]),(4,[.str [],.str []])],σ⟩) (Pr:=fun i=>fnI f.rp (fun x=>isM (m1,m2) x.1) i) (μ:=fun i=>f.rp.length-i) (a:=0) (by simp) ⟨Nat.zero_le _,by simp⟩ ?_
 rintro i ⟨hi,hn⟩
 by_cases hc:i<f.rp.length
 ·have hcL:i<LP.length:=by omega
  obtain⟨x,h1⟩:=getS hc
  have h2:=hx h1
  obtain⟨⟨x1,x2⟩,x3,x4⟩:=x
  simp only at h2
  have w1:=wr1 i (by omega)
  cases hp:(x1==m1&&x2==m2) with
  | true =>
   have h3:=hR1 _ (find_at hn h1 (by rw[qmv];exact hp))
   simp only[Prod.mk.injEq] at h3
   obtain⟨rfl,rfl⟩:=h3
   simp (maxSteps:=mS) [-Bool.and_eq_true,-Bool.and_eq_false_imp,-getElem?_pos,-Prod.forall,-Prod.exists,hcL,h2,hp,results28]
  | false =>
   have:=find_next hn h1 (by rw[qmv];exact hp)
   simp (maxSteps:=mS) [-Bool.and_eq_true,-Bool.and_eq_false_imp,-getElem?_pos,-Prod.forall,-Prod.exists,hcL,h2,hp,w1]
   exact⟨i+1,⟨by omega,this⟩,by omega,by simp⟩
 ·have hcL:¬i<LP.length:=by omega
  have hn1:=find_end hn (by omega)
  simp (maxSteps:=mS) [-Prod.forall,-Prod.exists,hcL]
  refine qf (I:=fun i:Nat=>⟨[(2,.lp 2 0),(3,.lp 3 0),(4,.lp 4 0),(6,.int .i64 i)],[(2,[.str f.m,.str f.g,.sl .sh (f.rq.map rqF),.sl .sh (f.ex.map modA),.sl .sh LP,.sl .sh (f.rt.map rtF)]),(3,[.str m1,.str m2]),(4,[.str [],.str []])],σ⟩) (Pr:=fun i=>fnI f.rp (fun x=>isM (m1,[]) x.1) i) (μ:=fun i=>f.rp.length-i) (a:=0) (by simp) ⟨Nat.zero_le _,by simp⟩ ?_
  clear hcL hc hi hn i
  rintro i ⟨hi,hn⟩
  by_cases hc:i<f.rp.length
  ·have hcL:i<LP.length:=by omega
   obtain⟨x,h1⟩:=getS hc
   have h2:=hx h1
   obtain⟨⟨x1,x2⟩,x3,x4⟩:=x
   simp only at h2
   have w1:=wr1 i (by omega)
   cases hp:(x1==m1&&x2.isEmpty) with
   | true =>
    have h3:=hR2 _ hn1 (find_at hn h1 (by rw[qsr];exact hp))
    simp only[Prod.mk.injEq] at h3
    obtain⟨rfl,rfl⟩:=h3
    simp (maxSteps:=mS) [-Bool.and_eq_true,-Bool.and_eq_false_imp,-getElem?_pos,-Prod.forall,-Prod.exists,hcL,h2,hp,results28]
   | false =>
    have:=find_next hn h1 (by rw[qsr];exact hp)
    simp (maxSteps:=mS) [-Bool.and_eq_true,-Bool.and_eq_false_imp,-getElem?_pos,-Prod.forall,-Prod.exists,hcL,h2,hp,w1]
    exact⟨i+1,⟨by omega,this⟩,by omega,by simp⟩
  ·have hcL:¬i<LP.length:=by omega
   have h3:=hR3 hn1 (find_end hn (by omega))
   simp only[Prod.mk.injEq] at h3
   obtain⟨rfl,rfl⟩:=h3
   simp (maxSteps:=mS) [-Prod.forall,-Prod.exists,hcL,results28]
end Go.Proofs.Tryz.Ai
end
section
namespace Go.Proofs.Tryz.Ai
open Go Go.AI Go.Proofs
theorem qss (f:Mf) (hb:MfB f) (hS:MfS f) (m:Md) (hm1:m.1.length≤2^20) (hm2:m.2.length≤2^20) (σ:List (List AV)):ev1 5 [mfF f,modA m] σ=some (.bool true,σ):=by
 have hF:=first_eq
 have hN:=fun e σ=>lift (qwq e σ)
 obtain⟨bf,hFw⟩:=qy2 f σ
 have hFw:=lift hFw
 have hFl:∀σ,ev1 18 [mfF f] σ=some (mfF f,σ):=fun σ=>lift (qy3 f.m f.g f.rq f.ex f.rp f.rt hb.lq hb.le hb.lp hb.lt σ)
 have hFm:=fun σ=>lift (qk3 f hb hS σ)
 have hrF:=fun σ=>lift (qpc f hb hS σ)
 obtain⟨⟨cv,S⟩,hC,vQ,vM,vP,vT,e1,e2,e3,bQ,bM,bP,bT⟩:=qsm f hb σ
 have hC:=lift hC
 simp only at e1 e2 e3 bQ bM bP bT
 subst e1
 have hrC:=fun σ=>lift (qk7 f hb σ)
 have hcB:=hb.canon
 have hSm:ev1 (900000+11) [.agg [.str (canonM f).m,.str (canonM f).g,vQ,vM,vP,vT],mfF (canonM f)] S=some (.bool true,S):=by
  have hm:mapO (flatV S 8) [.agg [.str (canonM f).m,.str (canonM f).g,vQ,vM,vP,vT],mfF (canonM f)]=some [mfF (canonM f),mfF (canonM f)]:=by
   simp only[mapO,CnB.flat bQ bM bP bT,flat_mf S (canonM f),bnd]
  have h0:=lift (qsj (canonM f) (canonM f) hcB [])
  rw[qg5] at h0
  exact qz4 (T:=T1) (H:=H) (P:=prog) (f:=11) rfl hm h0 rfl
 have hS2:∀σ,ev1 11 [mfF f,mfF f] σ=some (.bool true,σ):=fun σ=>by have:=lift (qsj f f hb σ);rwa [qg5] at this
 have hV:=fun σ=>lift (qo7 f hb.lq m.1 σ)
 have hrV:=fun σ=>lift (qmu f hb.lq m.1 σ)
 have hK:=fun σ=>lift (qky f hb σ)
 have hrK:=fun σ=>lift (qih f hb σ)
 have hPr:=fun σ=>lift (qsq f hb.g σ)
 have hrPr:=fun σ=>lift (qpd f hb.g σ)
 have hRp:=fun σ=>lift (qmp f (by have:=hb.lp;omega) m σ)
 have hrRp:=fun σ=>lift (qk9 f hb.lp m σ)
 have qQ:=bQ.cases (fun _=>rfl)
 have qM:=bM.cases (fun _=>rfl)
 have qP:=bP.cases (fun _=>rfl)
 have qT:=bT.cases (fun _=>rfl)
 have lq:(canonM f).rq.length≤2^29:=hcB.lq
 have le:(canonM f).ex.length≤2^29:=hcB.le
 clear bQ bM bP bT hcB hb hS
 generalize fmtP f=FP at *
 obtain⟨s,e⟩:=FP
 generalize (verQ f.rq m.1).getD []=va at *
 generalize (verQ f.rq m.1).isSome=vb at *
 generalize mfE f=E at *
 generalize prnB f.g=pb at *
 generalize replB f.rp m=R at *
 obtain⟨R1,R2⟩:=R
 obtain⟨m1,m2⟩:=m
 rw[modAx] at hRp hrRp
 rw[modAx] at hRp hrRp
 rw[modAx]
 simp only at hm1 hm2 hRp hrRp hFm hrF hV hrV ⊢
 simp only[mfFx] at hFw hFl hFm hrF hC hrC hSm hS2 hV hrV hK hrK hPr hrPr hRp hrRp ⊢
 try simp only at hC hSm hrC
 generalize canonM f=c at *
 obtain⟨cm,cg,crq,cex,crp,crt⟩:=c
 obtain⟨m,g,rq,ex,rp,rt⟩:=f
 simp only at *
 obtain⟨LQ,hLQ⟩:∃L,rq.map rqF=L:=⟨_,rfl⟩
 obtain⟨LM,hLM⟩:∃L,ex.map modA=L:=⟨_,rfl⟩
 obtain⟨LP,hLP⟩:∃L,rp.map rpF=L:=⟨_,rfl⟩
 obtain⟨LT,hLT⟩:∃L,rt.map rtF=L:=⟨_,rfl⟩
 rw[hLQ,hLM,hLP,hLT] at hFw hFl hFm hrF hC hrC hS2 hV hrV hK hrK hPr hrPr hRp hrRp ⊢
 obtain⟨CQ,hCQ⟩:∃L,crq.map rqF=L:=⟨_,rfl⟩
 obtain⟨CM,hCM⟩:∃L,cex.map modA=L:=⟨_,rfl⟩
 obtain⟨CP,hCP⟩:∃L,crp.map rpF=L:=⟨_,rfl⟩
 obtain⟨CT,hCT⟩:∃L,crt.map rtF=L:=⟨_,rfl⟩
 rw[hCQ,hCM,hCP,hCT] at hrC hSm
 generalize crq.length=nq at *
 generalize cex.length=ne at *
 generalize crp.length=np at *
 generalize crt.length=nt at *
 clear hLQ hLM hLP hLT hCQ hCM hCP hCT
 refine qk func5 ntmps5 ?_
 cases bf with
 | false=>simp (maxSteps:=mS) [hF,hFw,results5]
 | true =>
 by_cases h1:8000<m1.length
 ·simp (maxSteps:=mS) [hF,hFw,h1,results5]
 by_cases h2:8000<m2.length
 ·simp (maxSteps:=mS) [hF,hFw,h1,h2,results5]
 have aP:∀v:AV,(v=.sl .sh []∨∃t n b k,v=.ms t n b 0 k)→dem v=v∧v.cells=[v]∧qaa v=true∧pers v=true:=by
  rintro v (rfl|⟨t,n,b,k,rfl⟩)<;>exact⟨rfl,rfl,rfl,rfl⟩
 obtain⟨p1,p2,p3,p4⟩:=aP vP (by exact qP.elim (fun h=>.inl h.2) fun ⟨b,h,_⟩=>.inr ⟨_,_,_,_,h⟩)
 obtain⟨t1,t2,t3,t4⟩:=aP vT (by exact qT.elim (fun h=>.inl h.2) fun ⟨b,h,_⟩=>.inr ⟨_,_,_,_,h⟩)
 clear aP qP qT
 rcases qQ with ⟨zQ,rfl⟩|⟨b1,rfl,hq⟩<;>rcases qM with ⟨zM,rfl⟩|⟨b2,rfl,hm⟩
 ·have hW:wrI σ S []:=⟨e2,by intro p hp;cases hp⟩
  simp (maxSteps:=mS) [-getElem?_pos,-qb,-Prod.forall,-Prod.exists,hF,hFw,h1,h2,hFl,hFm,hrF,hC,↓p1,↓p2,↓p3,↓p4,↓t1,↓t2,↓t3,↓t4]
  refine qg [] _ (k:=?_)
  repeat (first|refine qd _ (hs:=by simp (maxSteps:=mS) [-getElem?_pos,hrC,hSm,↓p1,↓p2,↓p3,↓p4,↓t1,↓t2,↓t3,↓t4];exact rfl) (k:=?_)|refine qe _ (k:=?_))
  refine qc ?_
  simp (maxSteps:=mS) [-getElem?_pos,-Prod.forall,-Prod.exists]
  refine qf (I:=fun p:Nat×List (List AV)=>⟨[(2,.lp 2 0),(3,.lp 3 0),(7,.lp 7 0),(8,.str s),(9,.int .i64 e),(10,.str s),(11,.int .i64 e),(12,.lp 12 0),(13,.bool true),(14,.int .i64 p.1)],[(2,[.str m,.str g,.sl .sh LQ,.sl .sh LM,.sl .sh LP,.sl .sh LT]),(3,[.str m1,.str m2]),(7,[.str m,.str g,.sl .sh LQ,.sl .sh LM,.sl .sh LP,.sl .sh LT]),(12,[.str cm,.str cg,.sl .sh [],.sl .sh [],vP,vT])],p.2⟩) (Pr:=fun p=>upI 0 p.1 σ p.2 []) (μ:=fun p=>0-p.1) (a:=(0,S)) (by simp) ⟨Nat.zero_le _,hW⟩ ?_
  clear hW
  rintro⟨i,S3⟩ ⟨hi,hW⟩
  simp only at hi hW ⊢
  obtain rfl:i=0:=by omega
  simp (maxSteps:=mS) [-Prod.forall,-Prod.exists]
  refine qf (I:=fun p:Nat×List (List AV)=>⟨[(2,.lp 2 0),(3,.lp 3 0),(7,.lp 7 0),(8,.str s),(9,.int .i64 e),(10,.str s),(11,.int .i64 e),(12,.lp 12 0),(13,.bool true),(15,.int .i64 p.1)],[(2,[.str m,.str g,.sl .sh LQ,.sl .sh LM,.sl .sh LP,.sl .sh LT]),(3,[.str m1,.str m2]),(7,[.str m,.str g,.sl .sh LQ,.sl .sh LM,.sl .sh LP,.sl .sh LT]),(12,[.str cm,.str cg,.sl .sh [],.sl .sh [],vP,vT])],p.2⟩) (Pr:=fun p=>upI 0 p.1 σ p.2 []) (μ:=fun p=>0-p.1) (a:=(0,S3)) (by simp) ⟨Nat.zero_le _,hW⟩ ?_
  clear hW hi
  skip
  rintro⟨i,S4⟩ ⟨hi,hW⟩
  simp only at hi hW ⊢
  obtain rfl:i=0:=by omega
  simp (maxSteps:=mS) [-qb,hS2,hV,hrV]
  have hlo:=hW.low
  have htk:=hW.1
  refine qg [] _ (k:=?_)
  repeat (first|refine qd _ (hs:=by simp (maxSteps:=mS) [hN,hK,hrK,hPr,hrPr,hRp,hrRp];exact rfl) (k:=?_)|refine qe _ (k:=?_))
  refine qc ?_
  simp (maxSteps:=mS) [hlo,htk,results5]
 ·have hW:wrI σ S [(b2,ne*2)]:=⟨e2,by intro p hp;simp only[List.mem_cons,List.not_mem_nil,or_false] at hp;subst hp;exact hm⟩
  simp (maxSteps:=mS) [-getElem?_pos,-qb,-Prod.forall,-Prod.exists,hF,hFw,h1,h2,hFl,hFm,hrF,hC,↓p1,↓p2,↓p3,↓p4,↓t1,↓t2,↓t3,↓t4]
  refine qg [] _ (k:=?_)
  repeat (first|refine qd _ (hs:=by simp (maxSteps:=mS) [-getElem?_pos,hrC,hSm,↓p1,↓p2,↓p3,↓p4,↓t1,↓t2,↓t3,↓t4];exact rfl) (k:=?_)|refine qe _ (k:=?_))
  refine qc ?_
  simp (maxSteps:=mS) [-getElem?_pos,-Prod.forall,-Prod.exists]
  refine qf (I:=fun p:Nat×List (List AV)=>⟨[(2,.lp 2 0),(3,.lp 3 0),(7,.lp 7 0),(8,.str s),(9,.int .i64 e),(10,.str s),(11,.int .i64 e),(12,.lp 12 0),(13,.bool true),(14,.int .i64 p.1)],[(2,[.str m,.str g,.sl .sh LQ,.sl .sh LM,.sl .sh LP,.sl .sh LT]),(3,[.str m1,.str m2]),(7,[.str m,.str g,.sl .sh LQ,.sl .sh LM,.sl .sh LP,.sl .sh LT]),(12,[.str cm,.str cg,.sl .sh [],.ms 52 2 b2 0 ne,vP,vT])],p.2⟩) (Pr:=fun p=>upI 0 p.1 σ p.2 [(b2,ne*2)]) (μ:=fun p=>0-p.1) (a:=(0,S)) (by simp) ⟨Nat.zero_le _,hW⟩ ?_
  clear hW
  rintro⟨i,S3⟩ ⟨hi,hW⟩
  simp only at hi hW ⊢
  obtain rfl:i=0:=by omega
  simp (maxSteps:=mS) [-Prod.forall,-Prod.exists]
  refine qf (I:=fun p:Nat×List (List AV)=>⟨[(2,.lp 2 0),(3,.lp 3 0),(7,.lp 7 0),(8,.str s),(9,.int .i64 e),(10,.str s),(11,.int .i64 e),(12,.lp 12 0),(13,.bool true),(15,.int .i64 p.1)],[(2,[.str m,.str g,.sl .sh LQ,.sl .sh LM,.sl .sh LP,.sl .sh LT]),(3,[.str m1,.str m2]),(7,[.str m,.str g,.sl .sh LQ,.sl .sh LM,.sl .sh LP,.sl .sh LT]),(12,[.str cm,.str cg,.sl .sh [],.ms 52 2 b2 0 ne,vP,vT])],p.2⟩) (Pr:=fun p=>upI ne p.1 σ p.2 [(b2,ne*2)]) (μ:=fun p=>ne-p.1) (a:=(0,S3)) (by simp) ⟨Nat.zero_le _,hW⟩ ?_
  clear hW hi
  skip
  rintro⟨i,S4⟩ ⟨hi,hW⟩
  simp only at hi hW ⊢
  have w1:=wr1 i (by omega)
  by_cases hc:i<ne
  ·obtain⟨hb0,C,hCC,hCl⟩:=hW.2 (b2,ne*2) (by simp)
   simp only at hb0 hCC hCl
   have hlt:b2<S4.length:=(List.getElem?_eq_some_iff.1 hCC).1
   have r1:i*2+2≤C.length:=by omega
   simp (maxSteps:=mS) [-getElem?_pos,-Prod.forall,-Prod.exists,hc,hCC,r1,w1]
   refine⟨(i+1,_),⟨by simp only;omega,hW.set hb0 hlt (hW.same hCC ?_)⟩,by simp only;omega,by simp,rfl⟩
   simp only[List.length_append,List.length_take,List.length_cons,List.length_drop]
   omega
  ·simp (maxSteps:=mS) [-qb,hc,hS2,hV,hrV]
   have hlo:=hW.low
   have htk:=hW.1
   refine qg [] _ (k:=?_)
   repeat (first|refine qd _ (hs:=by simp (maxSteps:=mS) [hN,hK,hrK,hPr,hrPr,hRp,hrRp];exact rfl) (k:=?_)|refine qe _ (k:=?_))
   refine qc ?_
   simp (maxSteps:=mS) [hlo,htk,results5]
 ·have hW:wrI σ S [(b1,nq*3)]:=⟨e2,by intro p hp;simp only[List.mem_cons,List.not_mem_nil,or_false] at hp;subst hp;exact hq⟩
  simp (maxSteps:=mS) [-getElem?_pos,-qb,-Prod.forall,-Prod.exists,hF,hFw,h1,h2,hFl,hFm,hrF,hC,↓p1,↓p2,↓p3,↓p4,↓t1,↓t2,↓t3,↓t4]
  refine qg [] _ (k:=?_)
  repeat (first|refine qd _ (hs:=by simp (maxSteps:=mS) [-getElem?_pos,hrC,hSm,↓p1,↓p2,↓p3,↓p4,↓t1,↓t2,↓t3,↓t4];exact rfl) (k:=?_)|refine qe _ (k:=?_))
  refine qc ?_
  simp (maxSteps:=mS) [-getElem?_pos,-Prod.forall,-Prod.exists]
  refine qf (I:=fun p:Nat×List (List AV)=>⟨[(2,.lp 2 0),(3,.lp 3 0),(7,.lp 7 0),(8,.str s),(9,.int .i64 e),(10,.str s),(11,.int .i64 e),(12,.lp 12 0),(13,.bool true),(14,.int .i64 p.1)],[(2,[.str m,.str g,.sl .sh LQ,.sl .sh LM,.sl .sh LP,.sl .sh LT]),(3,[.str m1,.str m2]),(7,[.str m,.str g,.sl .sh LQ,.sl .sh LM,.sl .sh LP,.sl .sh LT]),(12,[.str cm,.str cg,.ms 41 3 b1 0 nq,.sl .sh [],vP,vT])],p.2⟩) (Pr:=fun p=>upI nq p.1 σ p.2 [(b1,nq*3)]) (μ:=fun p=>nq-p.1) (a:=(0,S)) (by simp) ⟨Nat.zero_le _,hW⟩ ?_
  clear hW
  rintro⟨i,S3⟩ ⟨hi,hW⟩
  simp only at hi hW ⊢
  have w1:=wr1 i (by omega)
  by_cases hc:i<nq
  ·obtain⟨hb0,C,hCC,hCl⟩:=hW.2 (b1,nq*3) (by simp)
   simp only at hb0 hCC hCl
   have hlt:b1<S3.length:=(List.getElem?_eq_some_iff.1 hCC).1
   have r1:i*3+3≤C.length:=by omega
   simp (maxSteps:=mS) [-getElem?_pos,-Prod.forall,-Prod.exists,hc,hCC,r1,w1]
   refine⟨(i+1,_),⟨by simp only;omega,hW.set hb0 hlt (hW.same hCC ?_)⟩,by simp only;omega,by simp,rfl⟩
   simp only[List.length_append,List.length_take,List.length_cons,List.length_drop]
   omega
  ·simp (maxSteps:=mS) [-Prod.forall,-Prod.exists,hc]
   refine qf (I:=fun p:Nat×List (List AV)=>⟨[(2,.lp 2 0),(3,.lp 3 0),(7,.lp 7 0),(8,.str s),(9,.int .i64 e),(10,.str s),(11,.int .i64 e),(12,.lp 12 0),(13,.bool true),(15,.int .i64 p.1)],[(2,[.str m,.str g,.sl .sh LQ,.sl .sh LM,.sl .sh LP,.sl .sh LT]),(3,[.str m1,.str m2]),(7,[.str m,.str g,.sl .sh LQ,.sl .sh LM,.sl .sh LP,.sl .sh LT]),(12,[.str cm,.str cg,.ms 41 3 b1 0 nq,.sl .sh [],vP,vT])],p.2⟩) (Pr:=fun p=>upI 0 p.1 σ p.2 [(b1,nq*3)]) (μ:=fun p=>0-p.1) (a:=(0,S3)) (by simp) ⟨Nat.zero_le _,hW⟩ ?_
   clear hW hi
   clear hc
   rintro⟨i,S4⟩ ⟨hi,hW⟩
   simp only at hi hW ⊢
   obtain rfl:i=0:=by omega
   simp (maxSteps:=mS) [-qb,hS2,hV,hrV]
   have hlo:=hW.low
   have htk:=hW.1
   refine qg [] _ (k:=?_)
   repeat (first|refine qd _ (hs:=by simp (maxSteps:=mS) [hN,hK,hrK,hPr,hrPr,hRp,hrRp];exact rfl) (k:=?_)|refine qe _ (k:=?_))
   refine qc ?_
   simp (maxSteps:=mS) [hlo,htk,results5]
 ·have hW:wrI σ S [(b1,nq*3),(b2,ne*2)]:=⟨e2,by intro p hp;simp only[List.mem_cons,List.not_mem_nil,or_false] at hp;exact hp.elim (fun e=>by subst e;exact hq) fun e=>by subst e;exact hm⟩
  simp (maxSteps:=mS) [-getElem?_pos,-qb,-Prod.forall,-Prod.exists,hF,hFw,h1,h2,hFl,hFm,hrF,hC,↓p1,↓p2,↓p3,↓p4,↓t1,↓t2,↓t3,↓t4]
  refine qg [] _ (k:=?_)
  repeat (first|refine qd _ (hs:=by simp (maxSteps:=mS) [-getElem?_pos,hrC,hSm,↓p1,↓p2,↓p3,↓p4,↓t1,↓t2,↓t3,↓t4];exact rfl) (k:=?_)|refine qe _ (k:=?_))
  refine qc ?_
  simp (maxSteps:=mS) [-getElem?_pos,-Prod.forall,-Prod.exists]
  refine qf (I:=fun p:Nat×List (List AV)=>⟨[(2,.lp 2 0),(3,.lp 3 0),(7,.lp 7 0),(8,.str s),(9,.int .i64 e),(10,.str s),(11,.int .i64 e),(12,.lp 12 0),(13,.bool true),(14,.int .i64 p.1)],[(2,[.str m,.str g,.sl .sh LQ,.sl .sh LM,.sl .sh LP,.sl .sh LT]),(3,[.str m1,.str m2]),(7,[.str m,.str g,.sl .sh LQ,.sl .sh LM,.sl .sh LP,.sl .sh LT]),(12,[.str cm,.str cg,.ms 41 3 b1 0 nq,.ms 52 2 b2 0 ne,vP,vT])],p.2⟩) (Pr:=fun p=>upI nq p.1 σ p.2 [(b1,nq*3),(b2,ne*2)]) (μ:=fun p=>nq-p.1) (a:=(0,S)) (by simp) ⟨Nat.zero_le _,hW⟩ ?_
  clear hW
  rintro⟨i,S3⟩ ⟨hi,hW⟩
  simp only at hi hW ⊢
  have w1:=wr1 i (by omega)
  by_cases hc:i<nq
  ·obtain⟨hb0,C,hCC,hCl⟩:=hW.2 (b1,nq*3) (by simp)
   simp only at hb0 hCC hCl
   have hlt:b1<S3.length:=(List.getElem?_eq_some_iff.1 hCC).1
   have r1:i*3+3≤C.length:=by omega
   simp (maxSteps:=mS) [-getElem?_pos,-Prod.forall,-Prod.exists,hc,hCC,r1,w1]
   refine⟨(i+1,_),⟨by simp only;omega,hW.set hb0 hlt (hW.same hCC ?_)⟩,by simp only;omega,by simp,rfl⟩
   simp only[List.length_append,List.length_take,List.length_cons,List.length_drop]
   omega
  ·simp (maxSteps:=mS) [-Prod.forall,-Prod.exists,hc]
   refine qf (I:=fun p:Nat×List (List AV)=>⟨[(2,.lp 2 0),(3,.lp 3 0),(7,.lp 7 0),(8,.str s),(9,.int .i64 e),(10,.str s),(11,.int .i64 e),(12,.lp 12 0),(13,.bool true),(15,.int .i64 p.1)],[(2,[.str m,.str g,.sl .sh LQ,.sl .sh LM,.sl .sh LP,.sl .sh LT]),(3,[.str m1,.str m2]),(7,[.str m,.str g,.sl .sh LQ,.sl .sh LM,.sl .sh LP,.sl .sh LT]),(12,[.str cm,.str cg,.ms 41 3 b1 0 nq,.ms 52 2 b2 0 ne,vP,vT])],p.2⟩) (Pr:=fun p=>upI ne p.1 σ p.2 [(b1,nq*3),(b2,ne*2)]) (μ:=fun p=>ne-p.1) (a:=(0,S3)) (by simp) ⟨Nat.zero_le _,hW⟩ ?_
   clear hW hi
   clear hc
   rintro⟨i,S4⟩ ⟨hi,hW⟩
   simp only at hi hW ⊢
   have w1:=wr1 i (by omega)
   by_cases hc:i<ne
   ·obtain⟨hb0,C,hCC,hCl⟩:=hW.2 (b2,ne*2) (by simp)
    simp only at hb0 hCC hCl
    have hlt:b2<S4.length:=(List.getElem?_eq_some_iff.1 hCC).1
    have r1:i*2+2≤C.length:=by omega
    simp (maxSteps:=mS) [-getElem?_pos,-Prod.forall,-Prod.exists,hc,hCC,r1,w1]
    refine⟨(i+1,_),⟨by simp only;omega,hW.set hb0 hlt (hW.same hCC ?_)⟩,by simp only;omega,by simp,rfl⟩
    simp only[List.length_append,List.length_take,List.length_cons,List.length_drop]
    omega
   ·simp (maxSteps:=mS) [-qb,hc,hS2,hV,hrV]
    have hlo:=hW.low
    have htk:=hW.1
    refine qg [] _ (k:=?_)
    repeat (first|refine qd _ (hs:=by simp (maxSteps:=mS) [hN,hK,hrK,hPr,hrPr,hRp,hrRp];exact rfl) (k:=?_)|refine qe _ (k:=?_))
    refine qc ?_
    simp (maxSteps:=mS) [hlo,htk,results5]
theorem mformLaw (f:MfT) (m:Md) (hs:MfSm (mfO f)) (hm:m.1.length+m.2.length≤1048576) (σ:List (List AV)):ev1 5 [mfF (mfO f),modA m] σ=some (.bool true,σ):=qss (mfO f) hs.B.1 hs.B.2 m (by omega) (by omega) σ
end Go.Proofs.Tryz.Ai
end
