/- Part 27 of a proof: Go functions are evaluated on abstract values; no conditions beyond those of each theorem. -/
import Derived.Test.YtjkkcelnfokplaaGreatDoorFi26
set_option linter.all false
set_option maxHeartbeats 16000000
set_option maxRecDepth 4000
section
namespace Go.Proofs.Tryz.Ai
open Go Go.AI Go.Proofs
structure Mf where
 m:List UInt8
 g:List UInt8
 rq:List Rq
 ex:List (List UInt8×List UInt8)
 rp:List Rp
 rt:List Rt
def mfC (f:Mf):List AV:=[.str f.m,.str f.g,.sl .sh (f.rq.map rqF),.sl .sh (f.ex.map modA),.sl .sh (f.rp.map rpF),.sl .sh (f.rt.map rtF)]
def mfF (f:Mf):AV:=.agg (mfC f)
theorem mfFx (f:Mf):mfF f=.agg [.str f.m,.str f.g,.sl .sh (f.rq.map rqF),.sl .sh (f.ex.map modA),.sl .sh (f.rp.map rpF),.sl .sh (f.rt.map rtF)]:=rfl
structure MfB (f:Mf):Prop where
 m:f.m.length≤2^29
 g:f.g.length≤2^29
 lq:f.rq.length≤2^29
 le:f.ex.length≤2^29
 lp:f.rp.length≤2^29
 lt:f.rt.length≤2^29
 rq:∀x∈f.rq,x.1.length≤2^29∧x.2.1.length≤2^29
 ex:∀x∈f.ex,qcu x
 rp:∀x∈f.rp,qcu x.1∧qcu x.2
 rt:∀x∈f.rt,qcu x
theorem qyq (x:Rq) (σ):ev 45 [rqF x] σ=some (modA (x.1,x.2.1),σ):=by
 obtain⟨x1,x2,x3⟩:=x
 simp only[rqFx,modAx]
 refine qk func45 ntmps45 ?_
 simp (maxSteps:=mS) [results45]
def rqsF (m:List UInt8):List Rq→List Rq→Int
 | _,[]=>0
 | a,x::r=>orI (fstE [(checkB x.1 x.2.1:Int),if (a.any (isQ x.1)||x.1==m)=true then 12 else 0]) (rqsF m (a++[x]) r)
theorem qg0 {m:List UInt8} {l:List Rq} {i:Nat} {x:Rq} (hx:l[i]? = some x):rqsF m (l.take i) (l.drop i)=orI (fstE [(checkB x.1 x.2.1:Int),if ((l.take i).any (isQ x.1)||x.1==m)=true then 12 else 0]) (rqsF m (l.take (i+1)) (l.drop (i+1))):=by
 obtain⟨hi,he⟩:=List.getElem?_eq_some_iff.1 hx
 rw[List.drop_eq_getElem_cons hi,he,rqsF,List.take_add_one,hx];rfl
def mostM (f:Mf):Int:=mxI (mxI (mxI f.rq.length f.ex.length) f.rp.length) f.rt.length
def headE (f:Mf):Int:=fstE [(pathB f.m:Int),if (f.g≠[]∧minorB f.g=none) then 11 else 0,if 200<mostM f then 14 else 0]
def tailE (f:Mf):Int:=fstE [eachE (fun x=>(checkB x.1 x.2:Int)) isM f.ex,eachE rpE (fun x y=>isM x.1 y.1) f.rp,eachE rtE isM f.rt]
def mfE (f:Mf):Int:=orI (headE f) (orI (rqsF f.m [] f.rq) (tailE f))
set_option maxHeartbeats 16000000 in
theorem qky (f:Mf) (hf:MfB f) (σ:List (List AV)):ev 23 [mfF f] σ=some (.int .i64 (mfE f),σ):=by
 have hm:=qnp f.g hf.g
 have hP:=qb4 f.m (by have:=hf.m;omega)
 have hW:=fun b e=>qa8 b e
 have h3:=fun a b c=>qa7 [a,b,c] (by simp)
 have h2:=fun a b=>qa7 [a,b] (by simp)
 have hE1:=fun σ=>qu9 f.ex hf.le 77 79 149 (by decide) (by decide) (by decide) (fun x=>(checkB x.1 x.2:Int)) isM (fun x=>[.str x.1,.str x.2]) (some (52,2))
  (fun x hx σ=>qer x.1 x.2 (by have:=(hf.ex x hx).1;omega) (by have:=(hf.ex x hx).2;omega) σ) (fun x _ σ=>qrn x σ) (fun x _ y σ b hb=>qoy x b _ y σ hb) σ
 have hE2:=fun σ=>qva f.rp hf.lp 81 82 160 (by decide) (by decide) (by decide) rpE (fun x y=>isM x.1 y.1) (fun x=>[.str x.1.1,.str x.1.2]) (some (52,2))
  (fun x hx σ=>qgy x (hf.rp x hx).1 (hf.rp x hx).2 σ) (fun x _ σ=>qox x σ) (fun x _ y σ b hb=>qgw x.1 b _ y σ hb) σ
 have hE3:=fun σ=>qvb f.rt hf.lt 84 85 152 (by decide) (by decide) (by decide) rtE isM (fun x=>[.str x.1,.str x.2]) (some (50,2))
  (fun x hx σ=>qgz x (hf.rt x hx) σ) (fun x _ σ=>qro x σ) (fun x _ y σ b hb=>qoz x b _ y σ hb) σ
 have hlq:=hf.lq
 have hbq:=hf.rq
 have hA:mfE f=orI (fstE [(pathB f.m:Int),if (f.g≠[]∧minorB f.g=none) then 11 else 0,if 200<mostM f then 14 else 0]) (orI (rqsF f.m [] f.rq) (fstE [eachE (fun x=>(checkB x.1 x.2:Int)) isM f.ex,eachE rpE (fun x y=>isM x.1 y.1) f.rp,eachE rtE isM f.rt])):=rfl
 have hX:mostM f=mxI (mxI (mxI f.rq.length f.ex.length) f.rp.length) f.rt.length:=rfl
 obtain⟨e1,he1⟩:∃e,eachE (fun x:List UInt8×List UInt8=>(checkB x.1 x.2:Int)) isM f.ex=e:=⟨_,rfl⟩
 obtain⟨e2,he2⟩:∃e,eachE rpE (fun x y=>isM x.1 y.1) f.rp=e:=⟨_,rfl⟩
 obtain⟨e3,he3⟩:∃e,eachE rtE isM f.rt=e:=⟨_,rfl⟩
 rw[he1] at hE1 hA
 rw[he2] at hE2 hA
 rw[he3] at hE3 hA
 clear he1 he2 he3
 obtain⟨m,g,rq,ex,rp,rt⟩:=f
 simp only at *
 clear hf
 obtain⟨LE,hLE⟩:∃L,ex.map modA=L:=⟨_,rfl⟩
 obtain⟨LP,hLP⟩:∃L,rp.map rpF=L:=⟨_,rfl⟩
 obtain⟨LT,hLT⟩:∃L,rt.map rtF=L:=⟨_,rfl⟩
 have hl1:LE.length=ex.length:=by rw[← hLE];simp
 have hl2:LP.length=rp.length:=by rw[← hLP];simp
 have hl3:LT.length=rt.length:=by rw[← hLT];simp
 rw[hLE] at hE1
 rw[hLP] at hE2
 rw[hLT] at hE3
 obtain⟨p,hp⟩:∃p:Int,(pathB m:Int)=p:=⟨_,rfl⟩
 rw[hp] at hP hA
 obtain⟨mB,hmB⟩:∃b,minorB g=b:=⟨_,rfl⟩
 obtain⟨mV,hmV⟩:∃b,minorV g=b:=⟨_,rfl⟩
 rw[hmB] at hm hA
 rw[hmV] at hm
 obtain⟨X,hXX⟩:∃X,mostM ⟨m,g,rq,ex,rp,rt⟩=X:=⟨_,rfl⟩
 rw[hXX] at hX hA
 simp only[List.map_cons,List.map_nil] at h2 h3
 rw[mfFx]
 simp only[hLE,hLP,hLT]
 obtain⟨c2,hc2⟩:∃c:Int,(if (g≠[]∧mB=none) then 11 else 0)=c:=⟨_,rfl⟩
 obtain⟨c3,hc3⟩:∃c:Int,(if 200<X then 14 else 0)=c:=⟨_,rfl⟩
 rw[hc2,hc3] at hA
 obtain⟨F,hF⟩:∃F,fstE [p,c2,c3]=F:=⟨_,rfl⟩
 rw[hF] at hA
 have hX':mxI (mxI (mxI rq.length LE.length) LP.length) LT.length=X:=by rw[hl1,hl2,hl3,hX]
 refine qk func23 ntmps23 ?_
 simp (maxSteps:=mS) [-qb,hm,hX']
 refine qkx ⟨[(0,.agg [.str m,.str g,.sl .sh (rq.map rqF),.sl .sh LE,.sl .sh LP,.sl .sh LT]),(1,.lp 1 0),(2,.int .i64 0),(4,.bool mB.isSome),(5,.int .i64 X),(6,.int .i64 F)],[(1,[.str m,.str g,.sl .sh (rq.map rqF),.sl .sh LE,.sl .sh LP,.sl .sh LT])],σ⟩ ?_ ?_
 ·by_cases hg:g=[]
  ·subst hg
   have e2:c2=0:=by rw[← hc2];simp
   subst e2
   refine qe7 [] _ (by rfl) (by simp (maxSteps:=mS) [];exact rfl) ?_
   repeat (first|refine qd _ (hs:=by simp (maxSteps:=mS) [hP,hW,h3,hc3];exact rfl) (k:=?_)|refine qe _ (k:=?_))
   refine qc ?_
   simp (maxSteps:=mS) [hF]
  ·have hg':(g==[])=false:=by simpa using hg
   cases hmc:mB with
   | none =>
    have e2:c2=11:=by rw[← hc2,hmc];simp[hg]
    subst e2
    subst hmc
    refine qe7 [] _ (by rfl) (by simp (maxSteps:=mS) [];exact rfl) ?_
    repeat (first|refine qd _ (hs:=by simp (maxSteps:=mS) [hP,hW,h3,hc3,hg,hg'];exact rfl) (k:=?_)|refine qe _ (k:=?_))
    refine qc ?_
    simp (maxSteps:=mS) [hF]
   | some k =>
    have e2:c2=0:=by rw[← hc2,hmc];simp
    subst e2
    subst hmc
    refine qe7 [] _ (by rfl) (by simp (maxSteps:=mS) [];exact rfl) ?_
    repeat (first|refine qd _ (hs:=by simp (maxSteps:=mS) [hP,hW,h3,hc3,hg,hg'];exact rfl) (k:=?_)|refine qe _ (k:=?_))
    refine qc ?_
    simp (maxSteps:=mS) [hF]
 by_cases hF0:F=0
 rotate_left
 ·have hA':mfE ⟨m,g,rq,ex,rp,rt⟩=F:=by rw[hA];unfold orI;rw[if_neg hF0]
  simp (maxSteps:=mS) [hF0,hA',results23]
 subst hF0
 have hA1:mfE ⟨m,g,rq,ex,rp,rt⟩=orI (rqsF m [] rq) (fstE [e1,e2,e3]):=hA
 simp (maxSteps:=mS) []
 refine qf (I:=fun p:Nat×List (List AV)=>⟨[(1,.lp 1 0),(50,.sl .sh (rq.map rqF)),(51,.int .i64 rq.length),(52,.int .i64 p.1)],[(1,[.str m,.str g,.sl .sh (rq.map rqF),.sl .sh LE,.sl .sh LP,.sl .sh LT])],p.2⟩) (Pr:=fun p=>p.1≤rq.length∧rqsF m [] rq=rqsF m (rq.take p.1) (rq.drop p.1)∧∃J,p.2=σ++J) (μ:=fun p=>rq.length-p.1) (a:=(0,σ)) (by simp) ⟨by simp,rfl,[],by simp⟩ ?_
 rintro⟨i,S⟩ ⟨hi,hE,J,hJ⟩
 simp only at hi hE hJ ⊢
 have w1:=wr1 i (by omega)
 by_cases hc:i<rq.length
 ·obtain⟨x,hx⟩:=getS hc
  have hxm:=List.mem_of_getElem? hx
  have hxb:=hbq x hxm
  have hst:=qg0 (m:=m) hx
  have f1:=qyq x
  have f2:=qep x.1 S
  have f3:=qbk (rq.take i) (by simp;omega) 132 (by decide) [.gp S.length 0 (some (9,1))] (by simp[args,arg,dem]) (isQ x.1) (S++[[.str x.1]]) (fun y _=>qdv x.1 _ _ y _ (by simp))
  have f4:=qer x.1 x.2.1 (by omega) (by omega)
  rw[hst] at hE
  rw[List.map_take] at f3
  obtain⟨t,ht⟩:∃t,(rq.take i).any (isQ x.1)=t:=⟨_,rfl⟩
  rw[ht] at f3 hE
  obtain⟨o,ho⟩:∃o:Int,(checkB x.1 x.2.1:Int)=o:=⟨_,rfl⟩
  rw[ho] at f4 hE
  obtain⟨x1,x2,x3⟩:=x
  simp only[rqFx,modAx] at f1 f2 f3 f4 hE
  obtain⟨L,hL⟩:∃L,rq.map rqF=L:=⟨_,rfl⟩
  have hLl:L.length=rq.length:=by rw[← hL];simp
  have hLi:L[i]? = some (.agg [.str x1,.str x2,.bool x3]):=by rw[← hL,List.getElem?_map,hx];rfl
  have hall:allCells 3 L:=by rw[← hL];simp
  rw[hL] at f3 ⊢
  have hil:i≤L.length:=by omega
  obtain⟨q,hq⟩:∃q,(t||x1==m)=q:=⟨_,rfl⟩
  rw[hq] at hE
  simp (maxSteps:=mS) [-getElem?_pos,-Prod.exists,-Prod.forall,-qb,hc,hLi]
  refine qkx ⟨[(1,.lp 1 0),(50,.sl .sh L),(51,.int .i64 rq.length),(52,.int .i64 i),(8,.lp 8 0),(7,.int .i64 i),(9,.bool q)],[(1,[.str m,.str g,.sl .sh L,.sl .sh LE,.sl .sh LP,.sl .sh LT]),(8,[.str x1,.str x2,.bool x3])],S++[[.str x1]]⟩ ?_ ?_
  ·cases t with
   | true =>
    have e:q=true:=by rw[← hq];rfl
    subst e
    refine qe7 [] _ (by rfl) (by simp (maxSteps:=mS) [];exact rfl) ?_
    repeat (first|refine qd _ (hs:=by simp (maxSteps:=mS) [-getElem?_pos,f2,f3,hall,hil];exact rfl) (k:=?_)|refine qe _ (k:=?_))
    refine qc ?_
    simp (maxSteps:=mS) []
   | false =>
    by_cases hxm':x1=m
    ·have e:q=true:=by rw[← hq];simpa using hxm'
     have hxe:(x1==m)=true:=by simpa using hxm'
     subst e
     refine qe7 [] _ (by rfl) (by simp (maxSteps:=mS) [];exact rfl) ?_
     repeat (first|refine qd _ (hs:=by simp (maxSteps:=mS) [-getElem?_pos,-beq_iff_eq,f2,f3,hall,hil,hxe];exact rfl) (k:=?_)|refine qe _ (k:=?_))
     refine qc ?_
     simp (maxSteps:=mS) []
    ·have e:q=false:=by rw[← hq];simpa using hxm'
     have hxe:(x1==m)=false:=by simpa using hxm'
     subst e
     refine qe7 [] _ (by rfl) (by simp (maxSteps:=mS) [];exact rfl) ?_
     repeat (first|refine qd _ (hs:=by simp (maxSteps:=mS) [-getElem?_pos,f2,f3,hall,hil,hxe];exact rfl) (k:=?_)|refine qe _ (k:=?_))
     refine qc ?_
     simp (maxSteps:=mS) []
  by_cases h0:fstE [o,if q=true then 12 else 0]=0
  ·rw[h0] at hE
   have hE':rqsF m [] rq=rqsF m (rq.take (i+1)) (rq.drop (i+1)):=hE
   simp (maxSteps:=mS) [-getElem?_pos,-Prod.exists,-Prod.forall,f1,f4,hW,h2,h0,w1]
   exact⟨(i+1,S++[[.str x1]]),⟨by simp;omega,hE',J++[[.str x1]],by rw[hJ];simp⟩,by simp;omega,by simp⟩
  ·have hE':rqsF m [] rq=fstE [o,if q=true then 12 else 0]:=by rw[hE];unfold orI;rw[if_neg h0]
   have hA2:mfE ⟨m,g,rq,ex,rp,rt⟩=fstE [o,if q=true then 12 else 0]:=by rw[hA1,hE'];unfold orI;rw[if_neg h0]
   subst hJ
   simp (maxSteps:=mS) [-getElem?_pos,f1,f4,hW,h2,h0,hA2,results23]
 ·have hi':i=rq.length:=by omega
  subst hi'
  have hE':rqsF m [] rq=0:=by rw[hE,List.drop_length,rqsF]
  have hA2:mfE ⟨m,g,rq,ex,rp,rt⟩=fstE [e1,e2,e3]:=by rw[hA1,hE'];rfl
  subst hJ
  simp (maxSteps:=mS) [-qb,hc]
  refine qg [] _ (k:=?_)
  repeat (first|refine qd _ (hs:=by simp (maxSteps:=mS) [hE1,hE2,hE3,h3];exact rfl) (k:=?_)|refine qe _ (k:=?_))
  refine qc ?_
  simp (maxSteps:=mS) [hA2,results23]
end Go.Proofs.Tryz.Ai
end
section
namespace Go.Proofs.Tryz.Ai
open Go Go.AI Go.Proofs
noncomputable abbrev pc:Panics:=PC prog H T
def fltV (line e:Int):AV:=.ifc 81 (.agg [.int .i64 line,.int .i64 e])
theorem qe9 (b:Nat) (sh:Option (TypeId×Nat)) (σ:List (List AV)):ev 112 [.gp b 0 sh,.int .i64 0] σ=some (.tup [],σ):=by
 refine qk func112 ntmps112 ?_
 simp (maxSteps:=mS) [results112]
theorem qba (b:Nat) (sh:Option (TypeId×Nat)) (σ:List (List AV)) (cs:List AV) (line e:Int) (hb:σ[b]? = some cs) (hl:cs[6]? = some (.int .i64 line)) (he:e≠0):pc 112 [.gp b 0 sh,.int .i64 e] σ (fltV line e):=by
 refine qbv 1 7 rfl func112 rfl (by simp[ntmps112]) (by kernel_rfl) (by kernel_rfl) ?_
 simp (maxSteps:=mS) [-getElem?_pos,he,hb,hl,fltV]
theorem qyr (b:Nat) (sh:Option (TypeId×Nat)) (n:Nat) (hn:n<200) (σ:List (List AV)):ev 233 [.gp b 0 sh,.int .i64 n] σ=some (.tup [],σ):=by
 have h1:=qa8 false 14
 have h2:=qe9 b sh
 have h3:¬200≤n:=by omega
 refine qk func233 ntmps233 ?_
 simp (maxSteps:=mS) [h1,h2,h3,results233]
theorem qnq (b:Nat) (sh:Option (TypeId×Nat)) (n:Nat) (hn:200≤n) (σ:List (List AV)) (cs:List AV) (line:Int) (hb:σ[b]? = some cs) (hl:cs[6]? = some (.int .i64 line)):pc 233 [.gp b 0 sh,.int .i64 n] σ (fltV line 14):=by
 have h1:=qa8 true 14
 have h2:=qba b sh σ cs line 14 hb hl (by decide)
 refine qbv 0 4 rfl func233 rfl (by simp[ntmps233]) (by kernel_rfl) (by kernel_rfl) ?_
 simp (maxSteps:=mS) [h1,h2,hn]
abbrev Tok:=UInt8×List UInt8
def tkF (t:Tok):AV:=.agg [.u8 t.1,.str t.2]
theorem tkFx (t:Tok):tkF t=.agg [.int .u8 (t.1.toNat:Int),.str t.2]:=rfl
@[simp] theorem allCellsK {l:List Tok}:allCells 2 (l.map tkF)↔True:=⟨fun _=>trivial,fun _ y hy=>by obtain⟨z,_,rfl⟩:=List.mem_map.1 hy;simp[tkF,AV.cells]⟩
@[simp] theorem lowK {n:Nat} {x:Tok}:low n (tkF x)↔True:=by simp[tkF,low,lowL]
def kindsB (l:List Tok) (k:List UInt8):Bool:=l.map (·.1)==k
def textsB (l:List Tok):List (List UInt8):=(l.filter fun t=>t.1==119).map (·.2)
def wordsB (l:List Tok) (k:List UInt8):Option (List (List UInt8)):=if kindsB l k then some (textsB l) else none
def wordsAV (o:Option (List (List UInt8))):AV:=.tup [.sl .sh ((o.getD []).map .str),.bool o.isSome]
theorem textsB_snoc (l:List Tok) (i:Nat) (t:Tok) (h:l[i]? = some t):textsB (l.take (i+1))=textsB (l.take i)++if t.1=119 then [t.2] else []:=by
 unfold textsB
 rw[List.take_add_one,h]
 simp only[Option.toList_some,List.filter_append,List.map_append,List.filter_cons,List.filter_nil]
 by_cases hq:t.1=119<;>simp[hq]
theorem qo1 {l:List Tok} {k:List UInt8} {i:Nat} {t:Tok} {c:UInt8} (h:l[i]? = some t) (hk:k[i]? = some c) (hn:t.1≠c):kindsB l k=false:=by
 unfold kindsB
 rw[beq_eq_false_iff_ne]
 intro e
 have:=congrArg (·[i]?) e
 simp only[List.getElem?_map,h,hk,Option.map_some,Option.some.injEq] at this
 exact hn this
theorem qmi {l:List Tok} {k:List UInt8} (hl:l.length=k.length) (h:∀(j:Nat) (t:Tok) (c:UInt8),l[j]? = some t→k[j]? = some c→t.1=c):kindsB l k=true:=by
 unfold kindsB
 rw[beq_iff_eq]
 apply List.ext_getElem?
 intro j
 by_cases hj:j<l.length
 ·obtain⟨t,ht⟩:=getS hj
  obtain⟨c,hc⟩:∃c,k[j]? = some c:=⟨_,List.getElem?_eq_getElem (by omega)⟩
  rw[List.getElem?_map,ht,hc];simp[h j t c ht hc]
 ·rw[List.getElem?_eq_none (by simpa using Nat.le_of_not_lt hj),List.getElem?_eq_none (by omega)]
theorem qfw (l:List Tok) (hl:l.length≤2^29) (k:List UInt8) (hk:k.length≤2^29) (σ):ev 115 [.sl .sh (l.map tkF),.str k] σ=some (wordsAV (wordsB l k),σ):=by
 refine qk func115 ntmps115 ?_
 by_cases hlen:l.length=k.length
 ·simp (maxSteps:=mS) [hlen]
  refine qf (I:=fun i:Nat=>⟨[(1,.str k),(6,.sl (.ex 9 1) ((textsB (l.take i)).map .str)),(14,.sl .sh (l.map tkF)),(15,.int .i64 k.length),(16,.int .i64 i)],[],σ⟩) (Pr:=fun i=>i≤l.length∧∀(j:Nat) (t:Tok) (c:UInt8),j<i→l[j]? = some t→k[j]? = some c→t.1=c) (μ:=fun i=>l.length-i) (a:=0) (by simp[textsB]) ⟨by simp,fun j t c h=>by omega⟩ ?_
  rintro i ⟨hi,hn⟩
  have w1:=wr1 i (by omega)
  have ht2:(textsB (l.take i)).length≤i:=by
   unfold textsB
   rw[List.length_map]
   exact Nat.le_trans (List.length_filter_le ..) (by simp;omega)
  by_cases hc:i<k.length
  ·obtain⟨t,ht⟩:∃t,l[i]? = some t:=⟨_,List.getElem?_eq_getElem (by omega)⟩
   obtain⟨c,hkc⟩:=getS hc
   have hsn:=textsB_snoc l i t ht
   have hbad:=fun h=>qo1 ht hkc h
   obtain⟨t1,t2⟩:=t
   simp only at hsn hbad
   obtain⟨L,hL⟩:∃L,l.map tkF=L:=⟨_,rfl⟩
   have hLi:L[i]? = some (.agg [.int .u8 (t1.toNat:Int),.str t2]):=by rw[← hL,List.getElem?_map,ht];rfl
   rw[hL]
   by_cases hq:t1=c
   ·have hn':∀(j:Nat) (t:Tok) (c:UInt8),j<i+1→l[j]? = some t→k[j]? = some c→t.1=c:=by
     intro j t' c' hj h1 h2
     by_cases hji:j=i
     ·subst hji;rw[ht] at h1;rw[hkc] at h2
      injection h1 with h1;injection h2 with h2;subst h1;subst h2;exact hq
     ·exact hn j t' c' (by omega) h1 h2
    subst hq
    by_cases h9:t1=119
    ·subst h9
     rw[if_pos rfl] at hsn
     simp (maxSteps:=mS) [-getElem?_pos,-qb,hc,hLi,hkc]
     refine qg [] _ (k:=?_)
     repeat (first|refine qd _ (hs:=by simp (maxSteps:=mS) [-getElem?_pos,hc,hLi,hkc];exact rfl) (k:=?_)|refine qe _ (k:=?_))
     refine qc ?_
     simp (maxSteps:=mS) [-Prod.forall,w1]
     repeat (rw[qo];rotate_left;(· (try unfold most);omega);simp (maxSteps:=mS) [-Prod.forall,w1])
     exact⟨i+1,⟨by omega,fun j a b c h1 h2 h3=>hn' j (a,b) c h1 h2 h3⟩,by omega,by simp[hsn]⟩
    ·rw[if_neg h9,List.append_nil] at hsn
     simp (maxSteps:=mS) [-getElem?_pos,-qb,hc,hLi,hkc,h9]
     refine qg [] _ (k:=?_)
     repeat (first|refine qd _ (hs:=by simp (maxSteps:=mS) [-getElem?_pos,hc,hLi,hkc];exact rfl) (k:=?_)|refine qe _ (k:=?_))
     refine qc ?_
     simp (maxSteps:=mS) [-Prod.forall,w1,h9]
     repeat (rw[qo];rotate_left;(· (try unfold most);omega);simp (maxSteps:=mS) [-Prod.forall,w1,h9])
     exact⟨i+1,⟨by omega,fun j a b c h1 h2 h3=>hn' j (a,b) c h1 h2 h3⟩,by omega,by simp[hsn]⟩
   ·have hw:wordsB l k=none:=by unfold wordsB;rw[hbad hq];rfl
    simp (maxSteps:=mS) [-getElem?_pos,-qb,hc,hLi,hkc,hq]
    refine qg [] _ (k:=?_)
    repeat (first|refine qd _ (hs:=by simp (maxSteps:=mS) [-getElem?_pos,hc,hLi,hkc,hq];exact rfl) (k:=?_)|refine qe _ (k:=?_))
    refine qc ?_
    simp (maxSteps:=mS) [hq,hw,wordsAV,results115]
  ·have hi':i=l.length:=by omega
   subst hi'
   have hw:wordsB l k=some (textsB l):=by
    unfold wordsB
    rw[qmi hlen fun j t c h1 h2=>hn j t c (List.getElem?_eq_some_iff.1 h1).1 h1 h2];rfl
   simp (maxSteps:=mS) [hc,hw,wordsAV,results115]
 ·have hlen':¬((l.length:Int)=(k.length:Int)):=by omega
  have hw:wordsB l k=none:=by
   unfold wordsB
   rw[if_neg]
   unfold kindsB
   rw[beq_iff_eq]
   intro e;apply hlen;rw[← e];simp
  simp (maxSteps:=mS) [hlen,hlen',hw,wordsAV,results115]
theorem form_ok (b:Nat) (sh:Option (TypeId×Nat)) (l:List Tok) (hl:l.length≤2^29) (k:List UInt8) (hk:k.length≤2^29) (ws:List (List UInt8)) (hw:wordsB l k=some ws) (σ:List (List AV)) :
  ev 232 [.gp b 0 sh,.sl .sh (l.map tkF),.str k] σ=some (.sl .sh (ws.map .str),σ):=by
 have h1:=qfw l hl k hk
 rw[hw] at h1
 have h2:=qa8 false 11
 have h3:=qe9 b sh
 simp only[wordsAV,Option.getD_some,Option.isSome_some] at h1
 refine qk func232 ntmps232 ?_
 simp (maxSteps:=mS) [h1,h2,h3,results232]
theorem form_pan (b:Nat) (sh:Option (TypeId×Nat)) (l:List Tok) (hl:l.length≤2^29) (k:List UInt8) (hk:k.length≤2^29) (hw:wordsB l k=none) (σ:List (List AV)) (cs:List AV) (line:Int) (hb:σ[b]? = some cs) (hln:cs[6]? = some (.int .i64 line)) :
  pc 232 [.gp b 0 sh,.sl .sh (l.map tkF),.str k] σ (fltV line 11):=by
 have h1:=qfw l hl k hk
 rw[hw] at h1
 have h2:=qa8 true 11
 have h3:=qba b sh σ cs line 11 hb hln (by decide)
 simp only[wordsAV,Option.getD_none,Option.isSome_none,List.map_nil] at h1
 refine qbv 2 4 rfl func232 rfl (by simp[ntmps232]) (by kernel_rfl) (by kernel_rfl) ?_
 simp (maxSteps:=mS) [h1,h2,h3]
end Go.Proofs.Tryz.Ai
end
section
namespace Go.Proofs.Tryz.Ai
open Go Go.AI Go.Proofs
def rqC (x y:Rq):Int:=bytesC x.1 y.1
theorem TP.rqC:TP rqC:=TO.bytes.tp.comap (fun x:Rq=>x.1)
def rpC (x y:Rp):Int:=modC x.1 y.1
theorem TP.rpC:TP rpC:=TO.modC.tp.comap (fun x:Rp=>x.1)
def rtC (x y:Rt):Int:=orI (cmpB x.1 y.1) (cmpB x.2 y.2)
theorem TO.rtC:TO rtC:=TO.cmp.prod TO.cmp
theorem orL2 (a b:Int):orL [a,b]=orI a b:=by
 simp only[orL,List.foldr,orI]
 split
 ·split
  ·symm;assumption
  ·rfl
 ·rfl
def qQ (x:Rq):Prop:=x.1.length≤2^29∧x.2.1.length≤2^29
def qP (x:Rp):Prop:=qcu x.1∧qcu x.2
theorem qrr (a b:Rq) (σ):ev 58 [rqF a,rqF b] σ=some (.int .i64 (rqC a b),σ):=by
 have h1:=qcf a.1 b.1
 obtain⟨a1,a2,a3⟩:=a
 obtain⟨b1,b2,b3⟩:=b
 simp only[rqFx] at *
 refine qk func58 ntmps58 ?_
 simp (maxSteps:=mS) [h1,rqC,results58]
theorem qrs (a b:Rp) (ha:qP a) (hb:qP b) (σ):ev 61 [rpF a,rpF b] σ=some (.int .i64 (rpC a b),σ):=by
 have h1:=qcf a.1.1 b.1.1
 have h2:=qgt a.1.2 b.1.2 (by have:=ha.1.2;omega) (by have:=hb.1.2;omega)
 have h3:=qel [bytesC a.1.1 b.1.1,cmpB a.1.2 b.1.2] (by simp)
 have h4:rpC a b=orL [bytesC a.1.1 b.1.1,cmpB a.1.2 b.1.2]:=by rw[orL2];rfl
 rw[h4]
 obtain⟨⟨a1,a2⟩,a3,a4⟩:=a
 obtain⟨⟨b1,b2⟩,b3,b4⟩:=b
 simp only[rpFx,List.map_cons,List.map_nil] at h1 h2 h3 ⊢
 obtain⟨c1,hc1⟩:∃c,bytesC a1 b1=c:=⟨_,rfl⟩
 obtain⟨c2,hc2⟩:∃c,cmpB a2 b2=c:=⟨_,rfl⟩
 rw[hc1] at h1 h3 ⊢
 rw[hc2] at h2 h3 ⊢
 refine qk func61 ntmps61 ?_
 simp (maxSteps:=mS) [-qb]
 refine qg [] _ (k:=?_)
 repeat (first|refine qd _ (hs:=by simp (maxSteps:=mS) [h1,h2,h3];exact rfl) (k:=?_)|refine qe _ (k:=?_))
 refine qc ?_
 simp (maxSteps:=mS) [results61]
theorem qrt (a b:Rt) (ha:qcu a) (hb:qcu b) (σ):ev 65 [rtF a,rtF b] σ=some (.int .i64 (rtC a b),σ):=by
 have h1:=qgt a.1 b.1 (by have:=ha.1;omega) (by have:=hb.1;omega)
 have h2:=qgt a.2 b.2 (by have:=ha.2;omega) (by have:=hb.2;omega)
 have h3:=qel [cmpB a.1 b.1,cmpB a.2 b.2] (by simp)
 have h4:rtC a b=orL [cmpB a.1 b.1,cmpB a.2 b.2]:=by rw[orL2];rfl
 rw[h4]
 obtain⟨a1,a2⟩:=a
 obtain⟨b1,b2⟩:=b
 simp only[rtFx,List.map_cons,List.map_nil] at h1 h2 h3 ⊢
 obtain⟨c1,hc1⟩:∃c,cmpB a1 b1=c:=⟨_,rfl⟩
 obtain⟨c2,hc2⟩:∃c,cmpB a2 b2=c:=⟨_,rfl⟩
 rw[hc1] at h1 h3 ⊢
 rw[hc2] at h2 h3 ⊢
 refine qk func65 ntmps65 ?_
 simp (maxSteps:=mS) [-qb]
 refine qg [] _ (k:=?_)
 repeat (first|refine qd _ (hs:=by simp (maxSteps:=mS) [h1,h2,h3];exact rfl) (k:=?_)|refine qe _ (k:=?_))
 refine qc ?_
 simp (maxSteps:=mS) [results65]
theorem qys:CmpOkQ 58 rqC qQ:=⟨TP.rqC,by decide,fun x y _ _ σ=>qrr x y σ⟩
theorem qyt:CmpOkP 61 rpC qP:=⟨TP.rpC,by decide,fun x y hx hy σ=>qrs x y hx hy σ⟩
theorem qyu:CmpOkT 65 rtC qcu:=⟨TO.rtC.tp,by decide,fun x y hx hy σ=>qrt x y hx hy σ⟩
theorem qru (l:List (Rq)):rowE esQ l=flat (l.map rqF):=qe6 (fun _=>rfl) l
theorem qvd (l:List (Rq)):els2 true 3 3 (flat (l.map rqF)) 0 l.length=some (l.map rqF):=qfv (E:=esQ) (fun _=>rfl) (fun _=>rfl) (fun _=>rfl) (by decide) l
theorem qji {α:Type} {S:List α} {b:Nat} {x:α} (h:S[b]? = some x):S.set b x=S:=by
 apply List.ext_getElem?
 intro j
 rw[List.getElem?_set]
 split
 ·rename_i e;subst e
  rw[if_pos (List.getElem?_eq_some_iff.1 h).1,h]
 ·rfl
theorem qg1 (S:List (List AV)):ev (100000+53) [.sl .sh []] S=some (.sl (.ex 41 3) [],S):=by
 refine qk (f:=100000+53) func53 ntmps53 ?_
 simp (maxSteps:=mS) [results53]
theorem qid (l:List (Rq)) (hl:l.length≤2^29) (h0:l≠[]) (S:List (List AV)):ev (100000+53) [.sl .sh (l.map rqF)] S=some (.ms 41 3 S.length 0 l.length,S++[rowE esQ l]):=by
 rw[qru]
 have hall:allCells 3 (l.map rqF):=by simp
 obtain⟨L,hL⟩:∃L,l.map rqF=L:=⟨_,rfl⟩
 have hLl:L.length=l.length:=by rw[← hL];simp
 rw[hL] at hall ⊢
 rw[← hLl] at hl ⊢
 have hne:L≠[]:=by rw[← hL];simpa using h0
 have hie:L.isEmpty=false:=by simpa using hne
 refine qk (f:=100000+53) func53 ntmps53 ?_
 simp (maxSteps:=mS) [hall,hne,hie,results53]
 repeat (rw[qo];rotate_left;(· (try unfold most);omega);simp (maxSteps:=mS) [hall,hne,hie,results53])
theorem qkz (l:List (Rq)) (hl:l.length≤2^29) (hQ:∀x∈l,qQ x) (b:Nat) (S:List (List AV)) (hb:S[b]? = some (rowE esQ l)) :
  ev 57 [.ms 41 3 b 0 l.length,.fn 58 []] S=some (.tup [],S.set b (rowE esQ (isrt rqC l))):=by
 have h:=qhj qys b S l l.length hQ rfl (by omega) (List.getElem?_eq_some_iff.1 hb).1
 rwa [qji hb] at h
theorem qrv (l:List (Rp)):rowE esP l=flat (l.map rpF):=qe6 (fun _=>rfl) l
theorem qve (l:List (Rp)):els2 true 4 4 (flat (l.map rpF)) 0 l.length=some (l.map rpF):=qfv (E:=esP) (fun _=>rfl) (fun _=>rfl) (fun _=>rfl) (by decide) l
theorem qg2 (S:List (List AV)):ev (100000+55) [.sl .sh []] S=some (.sl (.ex 54 4) [],S):=by
 refine qk (f:=100000+55) func55 ntmps55 ?_
 simp (maxSteps:=mS) [results55]
theorem qie (l:List (Rp)) (hl:l.length≤2^29) (h0:l≠[]) (S:List (List AV)):ev (100000+55) [.sl .sh (l.map rpF)] S=some (.ms 54 4 S.length 0 l.length,S++[rowE esP l]):=by
 rw[qrv]
 have hall:allCells 4 (l.map rpF):=by simp
 obtain⟨L,hL⟩:∃L,l.map rpF=L:=⟨_,rfl⟩
 have hLl:L.length=l.length:=by rw[← hL];simp
 rw[hL] at hall ⊢
 rw[← hLl] at hl ⊢
 have hne:L≠[]:=by rw[← hL];simpa using h0
 have hie:L.isEmpty=false:=by simpa using hne
 refine qk (f:=100000+55) func55 ntmps55 ?_
 simp (maxSteps:=mS) [hall,hne,hie,results55]
 repeat (rw[qo];rotate_left;(· (try unfold most);omega);simp (maxSteps:=mS) [hall,hne,hie,results55])
theorem qk0 (l:List (Rp)) (hl:l.length≤2^29) (hQ:∀x∈l,qP x) (b:Nat) (S:List (List AV)) (hb:S[b]? = some (rowE esP l)) :
  ev 60 [.ms 54 4 b 0 l.length,.fn 61 []] S=some (.tup [],S.set b (rowE esP (isrt rpC l))):=by
 have h:=qhl qyt b S l l.length hQ rfl (by omega) (List.getElem?_eq_some_iff.1 hb).1
 rwa [qji hb] at h
theorem qrw (l:List (Rt)):rowE esT l=flat (l.map rtF):=qe6 (fun _=>rfl) l
theorem qvf (l:List (Rt)):els2 true 2 2 (flat (l.map rtF)) 0 l.length=some (l.map rtF):=qfv (E:=esT) (fun _=>rfl) (fun _=>rfl) (fun _=>rfl) (by decide) l
theorem qg3 (S:List (List AV)):ev (100000+56) [.sl .sh []] S=some (.sl (.ex 50 2) [],S):=by
 refine qk (f:=100000+56) func56 ntmps56 ?_
 simp (maxSteps:=mS) [results56]
theorem qif (l:List (Rt)) (hl:l.length≤2^29) (h0:l≠[]) (S:List (List AV)):ev (100000+56) [.sl .sh (l.map rtF)] S=some (.ms 50 2 S.length 0 l.length,S++[rowE esT l]):=by
 rw[qrw]
 have hall:allCells 2 (l.map rtF):=by simp
 obtain⟨L,hL⟩:∃L,l.map rtF=L:=⟨_,rfl⟩
 have hLl:L.length=l.length:=by rw[← hL];simp
 rw[hL] at hall ⊢
 rw[← hLl] at hl ⊢
 have hne:L≠[]:=by rw[← hL];simpa using h0
 have hie:L.isEmpty=false:=by simpa using hne
 refine qk (f:=100000+56) func56 ntmps56 ?_
 simp (maxSteps:=mS) [hall,hne,hie,results56]
 repeat (rw[qo];rotate_left;(· (try unfold most);omega);simp (maxSteps:=mS) [hall,hne,hie,results56])
theorem qk1 (l:List (Rt)) (hl:l.length≤2^29) (hQ:∀x∈l,qcu x) (b:Nat) (S:List (List AV)) (hb:S[b]? = some (rowE esT l)) :
  ev 64 [.ms 50 2 b 0 l.length,.fn 65 []] S=some (.tup [],S.set b (rowE esT (isrt rtC l))):=by
 have h:=qhk qyu b S l l.length hQ rfl (by omega) (List.getElem?_eq_some_iff.1 hb).1
 rwa [qji hb] at h
def canonM (f:Mf):Mf:={f with rq:=isrt rqC f.rq,ex:=isrt modC f.ex,rp:=isrt rpC f.rp,rt:=isrt rtC f.rt}
end Go.Proofs.Tryz.Ai
end
section
namespace Go.Proofs.Tryz.Ai
open Go Go.AI Go.Proofs
def verQ (L:List Rq) (p:List UInt8):Option (List UInt8):=(L.find? (isQ p)).map (·.2.1)
theorem qsk {p:List UInt8} {x:Rq}:isQ p x=true↔x.1=p:=by unfold isQ;simp
end Go.Proofs.Tryz.Ai
end
section
namespace Go.Proofs.Tryz.Ai
open Go Go.AI Go.Proofs
theorem qk4 {g:Nat} (σ:List (List AV)):ev (100000+122) [.sl .sh [],.fn g []] σ=some (.sl (.ex 52 2) [],σ):=by
 have hS:=qdg g
 refine qk (f:=100000+122) func122 ntmps122 ?_
 simp (maxSteps:=mS) [hS,results122]
theorem qmq {g:Nat} {c:List UInt8×List UInt8→List UInt8×List UInt8→Int} {Q:List UInt8×List UInt8→Prop} (h:CmpOkM g c Q) (l:List (List UInt8×List UInt8)) (hl:l.length≤2^30) (h0:l≠[]) (hQ:∀x∈l,Q x) (σ:List (List AV)) :
  ev (100000+122) [.sl .sh (l.map modA),.fn g []] σ=some (.ms 52 2 σ.length 0 l.length,σ++[rowE esM (isrt c l)]):=by
 cases l with
 | nil=>exact absurd rfl h0
 | cons x r =>
  have hS:=qd1 h σ.length (σ++[[]]) (x::r) (r.length+1) hQ (by simp) (by simpa using hl) (by simp)
  rw[qmd] at hS
  obtain⟨R,hR⟩:∃R,rowE esM (isrt c (x::r))=R:=⟨_,rfl⟩
  rw[hR] at hS ⊢
  have hall:allCells 2 (r.map modA):=by
   intro z hz
   obtain⟨w,_,rfl⟩:=List.mem_map.1 hz
   simp[modA,AV.cells]
  simp[modA] at hS hl
  refine qk (f:=100000+122) func122 ntmps122 ?_
  simp (maxSteps:=mS) [hS,hall,modA,results122]
  repeat (rw[qo];rotate_left;(· (try unfold most);omega);simp (maxSteps:=mS) [hS,hall,modA,results122])
theorem qjm (σ:List (List AV)):ev (100000+54) [.sl .sh []] σ=some (.sl (.ex 52 2) [],σ):=by
 have h:=fun σ=>qk4 (g:=123) σ
 refine qk (f:=100000+54) func54 ntmps54 ?_
 simp (maxSteps:=mS) [h,results54]
theorem qk5 (l:List (List UInt8×List UInt8)) (hl:l.length≤2^30) (h0:l≠[]) (hQ:∀x∈l,modQ x) (σ:List (List AV)):ev (100000+54) [.sl .sh (l.map modA)] σ=some (.ms 52 2 σ.length 0 l.length,σ++[rowE esM (isrt modC l)]):=by
 have h:=fun σ=>qmq qrm l hl h0 hQ σ
 refine qk (f:=100000+54) func54 ntmps54 ?_
 simp (maxSteps:=mS) [h,results54]
def BxO {α:Type} (E:α→List AV) (t sz:Nat) (n:Nat) (S:List (List AV)) (v:AV) (l:List α):Prop:=(l=[]∧v=.sl .sh [])∨(l≠[]∧∃b,v=.ms t sz b 0 l.length∧n≤b∧S[b]? = some (rowE E l))
def CnB (σ:List (List AV)) (f:Mf) (r:AV×List (List AV)):Prop:=∃vQ vM vP vT,r.1=.agg [.str f.m,.str f.g,vQ,vM,vP,vT]∧r.2.take σ.length=σ∧σ.length≤r.2.length ∧
 BxO esQ 41 3 σ.length r.2 vQ f.rq∧BxO esM 52 2 σ.length r.2 vM f.ex∧BxO esP 54 4 σ.length r.2 vP f.rp∧BxO esT 50 2 σ.length r.2 vT f.rt
theorem qb5 {α:Type} {c:α→α→Int} {l:List α} (h:l≠[]):isrt c l≠[]:=by
 intro e
 have:=qp (c:=c) l
 rw[e] at this
 exact h (List.length_eq_zero_iff.1 this.symm)
theorem BxO.nil {α:Type} {E:α→List AV} {t sz n:Nat} {S:List (List AV)}:BxO E t sz n S (.sl .sh []) []:=.inl ⟨rfl,rfl⟩
theorem BxO.box {α:Type} {E:α→List AV} {t sz n b k:Nat} {S:List (List AV)} {l:List α} (h0:l≠[]) (hk:k=l.length) (hb:n≤b) (h:S[b]? = some (rowE E l)):BxO E t sz n S (.ms t sz b 0 k) l:=.inr ⟨h0,b,by rw[hk],hb,h⟩
theorem qsl (m g:List UInt8) (rq:List Rq) (ex:List (List UInt8×List UInt8)) (rp:List Rp) (rt:List Rt) (hf:MfB ⟨m,g,rq,ex,rp,rt⟩) (σ:List (List AV)):∃r,ev (100000+15) [mfF ⟨m,g,rq,ex,rp,rt⟩] σ=some r∧CnB σ (canonM ⟨m,g,rq,ex,rp,rt⟩) r:=by
 have hA:canonM ⟨m,g,rq,ex,rp,rt⟩=⟨m,g,isrt rqC rq,isrt modC ex,isrt rpC rp,isrt rtC rt⟩:=rfl
 rw[hA,mfFx]
 simp only
 have lQ:(isrt rqC rq).length=rq.length:=qp _
 have sQ:=fun b S=>qkz rq hf.lq (fun x hx=>hf.rq x hx) b S
 have nQ:=qdd 58
 have cQ:rq≠[]→∀S:List (List AV),ev (100000+53) [.sl .sh (rq.map rqF)] S=some (.ms 41 3 S.length 0 rq.length,S++[rowE esQ rq]):=fun h S=>qid rq hf.lq h S
 have zQ:=qg1
 have lM:(isrt modC ex).length=ex.length:=qp _
 have cM:ex≠[]→∀S:List (List AV),ev (100000+54) [.sl .sh (ex.map modA)] S=some (.ms 52 2 S.length 0 ex.length,S++[rowE esM (isrt modC ex)]):=fun h S=>qk5 ex (by have:=hf.le;simp only at this;omega) h (fun x hx=>⟨by have:=(hf.ex x hx).1;omega,by have:=(hf.ex x hx).2;omega⟩) S
 have zM:=qjm
 have lP:(isrt rpC rp).length=rp.length:=qp _
 have sP:=fun b S=>qk0 rp hf.lp (fun x hx=>hf.rp x hx) b S
 have nP:=qdf 61
 have cP:rp≠[]→∀S:List (List AV),ev (100000+55) [.sl .sh (rp.map rpF)] S=some (.ms 54 4 S.length 0 rp.length,S++[rowE esP rp]):=fun h S=>qie rp hf.lp h S
 have zP:=qg2
 have lT:(isrt rtC rt).length=rt.length:=qp _
 have sT:=fun b S=>qk1 rt hf.lt (fun x hx=>hf.rt x hx) b S
 have nT:=qde 65
 have cT:rt≠[]→∀S:List (List AV),ev (100000+56) [.sl .sh (rt.map rtF)] S=some (.ms 50 2 S.length 0 rt.length,S++[rowE esT rt]):=fun h S=>qif rt hf.lt h S
 have zT:=qg3
 clear hf
 obtain⟨RQ',hRQ'⟩:∃R,rowE esQ (isrt rqC rq)=R:=⟨_,rfl⟩
 obtain⟨NQ,hNQ⟩:∃R,rq.map rqF=R:=⟨_,rfl⟩
 obtain⟨RQ,hRQ⟩:∃R,rowE esQ rq=R:=⟨_,rfl⟩
 rw[hRQ] at sQ cQ
 rw[hRQ'] at sQ
 rw[hNQ] at cQ ⊢
 have iQ:rq≠[]→isrt rqC rq≠[]:=qb5
 have dQ:rq=[]→NQ=[]∧isrt rqC rq=[]:=fun h=>by subst h;exact⟨hNQ.symm,rfl⟩
 obtain⟨RM',hRM'⟩:∃R,rowE esM (isrt modC ex)=R:=⟨_,rfl⟩
 obtain⟨NM,hNM⟩:∃R,ex.map modA=R:=⟨_,rfl⟩
 rw[hNM] at cM ⊢
 rw[hRM'] at cM
 have iM:ex≠[]→isrt modC ex≠[]:=qb5
 have dM:ex=[]→NM=[]∧isrt modC ex=[]:=fun h=>by subst h;exact⟨hNM.symm,rfl⟩
 obtain⟨RP',hRP'⟩:∃R,rowE esP (isrt rpC rp)=R:=⟨_,rfl⟩
 obtain⟨NP,hNP⟩:∃R,rp.map rpF=R:=⟨_,rfl⟩
 obtain⟨RP,hRP⟩:∃R,rowE esP rp=R:=⟨_,rfl⟩
 rw[hRP] at sP cP
 rw[hRP'] at sP
 rw[hNP] at cP ⊢
 have iP:rp≠[]→isrt rpC rp≠[]:=qb5
 have dP:rp=[]→NP=[]∧isrt rpC rp=[]:=fun h=>by subst h;exact⟨hNP.symm,rfl⟩
 obtain⟨RT',hRT'⟩:∃R,rowE esT (isrt rtC rt)=R:=⟨_,rfl⟩
 obtain⟨NT,hNT⟩:∃R,rt.map rtF=R:=⟨_,rfl⟩
 obtain⟨RT,hRT⟩:∃R,rowE esT rt=R:=⟨_,rfl⟩
 rw[hRT] at sT cT
 rw[hRT'] at sT
 rw[hNT] at cT ⊢
 have iT:rt≠[]→isrt rtC rt≠[]:=qb5
 have dT:rt=[]→NT=[]∧isrt rtC rt=[]:=fun h=>by subst h;exact⟨hNT.symm,rfl⟩
 by_cases hQ:rq=[]
 ·obtain⟨aQ,bQ⟩:=dQ hQ
  rw[aQ,bQ]
  by_cases hM:ex=[]
  ·obtain⟨aM,bM⟩:=dM hM
   rw[aM,bM]
   by_cases hP:rp=[]
   ·obtain⟨aP,bP⟩:=dP hP
    rw[aP,bP]
    by_cases hT:rt=[]
    ·obtain⟨aT,bT⟩:=dT hT
     rw[aT,bT]
     refine⟨(.agg [.str m,.str g,.sl .sh [],.sl .sh [],.sl .sh [],.sl .sh []],σ++[]),?_,⟨_,_,_,_,rfl,by simp,by simp,BxO.nil,BxO.nil,BxO.nil,BxO.nil⟩⟩
     refine qk (f:=100000+15) func15 ntmps15 ?_
     simp (maxSteps:=mS) [-qb]
     refine qg [] _ (k:=?_)
     repeat (first|refine qd _ (hs:=by simp (maxSteps:=mS) [-getElem?_pos,zQ,zM,zP,zT];exact rfl) (k:=?_)|refine qe _ (k:=?_))
     refine qc ?_
     simp (maxSteps:=mS) [-getElem?_pos,nQ,nP,nT,results15]
    ·have eT:=cT hT
     have pT:0<rt.length:=List.length_pos_iff.2 hT
     refine⟨(.agg [.str m,.str g,.sl .sh [],.sl .sh [],.sl .sh [],.ms 50 2 σ.length 0 rt.length],σ++[RT']),?_,⟨_,_,_,_,rfl,by simp,by simp,BxO.nil,BxO.nil,BxO.nil,BxO.box (iT hT) lT.symm (by omega) (by rw[hRT'];simp)⟩⟩
     refine qk (f:=100000+15) func15 ntmps15 ?_
     simp (maxSteps:=mS) [-qb]
     refine qg [] _ (k:=?_)
     repeat (first|refine qd _ (hs:=by simp (maxSteps:=mS) [-getElem?_pos,zQ,zM,zP,eT];exact rfl) (k:=?_)|refine qe _ (k:=?_))
     refine qc ?_
     simp (maxSteps:=mS) [-getElem?_pos,nQ,nP,sT,pT,results15]
   ·have eP:=cP hP
    have pP:0<rp.length:=List.length_pos_iff.2 hP
    by_cases hT:rt=[]
    ·obtain⟨aT,bT⟩:=dT hT
     rw[aT,bT]
     refine⟨(.agg [.str m,.str g,.sl .sh [],.sl .sh [],.ms 54 4 σ.length 0 rp.length,.sl .sh []],σ++[RP']),?_,⟨_,_,_,_,rfl,by simp,by simp,BxO.nil,BxO.nil,BxO.box (iP hP) lP.symm (by omega) (by rw[hRP'];simp),BxO.nil⟩⟩
     refine qk (f:=100000+15) func15 ntmps15 ?_
     simp (maxSteps:=mS) [-qb]
     refine qg [] _ (k:=?_)
     repeat (first|refine qd _ (hs:=by simp (maxSteps:=mS) [-getElem?_pos,zQ,zM,eP,zT];exact rfl) (k:=?_)|refine qe _ (k:=?_))
     refine qc ?_
     simp (maxSteps:=mS) [-getElem?_pos,nQ,sP,pP,nT,results15]
    ·have eT:=cT hT
     have pT:0<rt.length:=List.length_pos_iff.2 hT
     refine⟨(.agg [.str m,.str g,.sl .sh [],.sl .sh [],.ms 54 4 σ.length 0 rp.length,.ms 50 2 (σ.length+1) 0 rt.length],σ++[RP',RT']),?_,⟨_,_,_,_,rfl,by simp,by simp,BxO.nil,BxO.nil,BxO.box (iP hP) lP.symm (by omega) (by rw[hRP'];simp),BxO.box (iT hT) lT.symm (by omega) (by rw[hRT'];simp)⟩⟩
     refine qk (f:=100000+15) func15 ntmps15 ?_
     simp (maxSteps:=mS) [-qb]
     refine qg [] _ (k:=?_)
     repeat (first|refine qd _ (hs:=by simp (maxSteps:=mS) [-getElem?_pos,zQ,zM,eP,eT];exact rfl) (k:=?_)|refine qe _ (k:=?_))
     refine qc ?_
     simp (maxSteps:=mS) [-getElem?_pos,nQ,sP,pP,sT,pT,results15]
  ·have eM:=cM hM
   have pM:0<ex.length:=List.length_pos_iff.2 hM
   by_cases hP:rp=[]
   ·obtain⟨aP,bP⟩:=dP hP
    rw[aP,bP]
    by_cases hT:rt=[]
    ·obtain⟨aT,bT⟩:=dT hT
     rw[aT,bT]
     refine⟨(.agg [.str m,.str g,.sl .sh [],.ms 52 2 σ.length 0 ex.length,.sl .sh [],.sl .sh []],σ++[RM']),?_,⟨_,_,_,_,rfl,by simp,by simp,BxO.nil,BxO.box (iM hM) lM.symm (by omega) (by rw[hRM'];simp),BxO.nil,BxO.nil⟩⟩
     refine qk (f:=100000+15) func15 ntmps15 ?_
     simp (maxSteps:=mS) [-qb]
     refine qg [] _ (k:=?_)
     repeat (first|refine qd _ (hs:=by simp (maxSteps:=mS) [-getElem?_pos,zQ,eM,zP,zT];exact rfl) (k:=?_)|refine qe _ (k:=?_))
     refine qc ?_
     simp (maxSteps:=mS) [-getElem?_pos,nQ,pM,nP,nT,results15]
    ·have eT:=cT hT
     have pT:0<rt.length:=List.length_pos_iff.2 hT
     refine⟨(.agg [.str m,.str g,.sl .sh [],.ms 52 2 σ.length 0 ex.length,.sl .sh [],.ms 50 2 (σ.length+1) 0 rt.length],σ++[RM',RT']),?_,⟨_,_,_,_,rfl,by simp,by simp,BxO.nil,BxO.box (iM hM) lM.symm (by omega) (by rw[hRM'];simp),BxO.nil,BxO.box (iT hT) lT.symm (by omega) (by rw[hRT'];simp)⟩⟩
     refine qk (f:=100000+15) func15 ntmps15 ?_
     simp (maxSteps:=mS) [-qb]
     refine qg [] _ (k:=?_)
     repeat (first|refine qd _ (hs:=by simp (maxSteps:=mS) [-getElem?_pos,zQ,eM,zP,eT];exact rfl) (k:=?_)|refine qe _ (k:=?_))
     refine qc ?_
     simp (maxSteps:=mS) [-getElem?_pos,nQ,pM,nP,sT,pT,results15]
   ·have eP:=cP hP
    have pP:0<rp.length:=List.length_pos_iff.2 hP
    by_cases hT:rt=[]
    ·obtain⟨aT,bT⟩:=dT hT
     rw[aT,bT]
     refine⟨(.agg [.str m,.str g,.sl .sh [],.ms 52 2 σ.length 0 ex.length,.ms 54 4 (σ.length+1) 0 rp.length,.sl .sh []],σ++[RM',RP']),?_,⟨_,_,_,_,rfl,by simp,by simp,BxO.nil,BxO.box (iM hM) lM.symm (by omega) (by rw[hRM'];simp),BxO.box (iP hP) lP.symm (by omega) (by rw[hRP'];simp),BxO.nil⟩⟩
     refine qk (f:=100000+15) func15 ntmps15 ?_
     simp (maxSteps:=mS) [-qb]
     refine qg [] _ (k:=?_)
     repeat (first|refine qd _ (hs:=by simp (maxSteps:=mS) [-getElem?_pos,zQ,eM,eP,zT];exact rfl) (k:=?_)|refine qe _ (k:=?_))
     refine qc ?_
     simp (maxSteps:=mS) [-getElem?_pos,nQ,pM,sP,pP,nT,results15]
    ·have eT:=cT hT
     have pT:0<rt.length:=List.length_pos_iff.2 hT
     refine⟨(.agg [.str m,.str g,.sl .sh [],.ms 52 2 σ.length 0 ex.length,.ms 54 4 (σ.length+1) 0 rp.length,.ms 50 2 (σ.length+2) 0 rt.length],σ++[RM',RP',RT']),?_,⟨_,_,_,_,rfl,by simp,by simp,BxO.nil,BxO.box (iM hM) lM.symm (by omega) (by rw[hRM'];simp),BxO.box (iP hP) lP.symm (by omega) (by rw[hRP'];simp),BxO.box (iT hT) lT.symm (by omega) (by rw[hRT'];simp)⟩⟩
     refine qk (f:=100000+15) func15 ntmps15 ?_
     simp (maxSteps:=mS) [-qb]
     refine qg [] _ (k:=?_)
     repeat (first|refine qd _ (hs:=by simp (maxSteps:=mS) [-getElem?_pos,zQ,eM,eP,eT];exact rfl) (k:=?_)|refine qe _ (k:=?_))
     refine qc ?_
     simp (maxSteps:=mS) [-getElem?_pos,nQ,pM,sP,pP,sT,pT,results15]
 ·have eQ:=cQ hQ
  have pQ:0<rq.length:=List.length_pos_iff.2 hQ
  by_cases hM:ex=[]
  ·obtain⟨aM,bM⟩:=dM hM
   rw[aM,bM]
   by_cases hP:rp=[]
   ·obtain⟨aP,bP⟩:=dP hP
    rw[aP,bP]
    by_cases hT:rt=[]
    ·obtain⟨aT,bT⟩:=dT hT
     rw[aT,bT]
     refine⟨(.agg [.str m,.str g,.ms 41 3 σ.length 0 rq.length,.sl .sh [],.sl .sh [],.sl .sh []],σ++[RQ']),?_,⟨_,_,_,_,rfl,by simp,by simp,BxO.box (iQ hQ) lQ.symm (by omega) (by rw[hRQ'];simp),BxO.nil,BxO.nil,BxO.nil⟩⟩
     refine qk (f:=100000+15) func15 ntmps15 ?_
     simp (maxSteps:=mS) [-qb]
     refine qg [] _ (k:=?_)
     repeat (first|refine qd _ (hs:=by simp (maxSteps:=mS) [-getElem?_pos,eQ,zM,zP,zT];exact rfl) (k:=?_)|refine qe _ (k:=?_))
     refine qc ?_
     simp (maxSteps:=mS) [-getElem?_pos,sQ,pQ,nP,nT,results15]
    ·have eT:=cT hT
     have pT:0<rt.length:=List.length_pos_iff.2 hT
     refine⟨(.agg [.str m,.str g,.ms 41 3 σ.length 0 rq.length,.sl .sh [],.sl .sh [],.ms 50 2 (σ.length+1) 0 rt.length],σ++[RQ',RT']),?_,⟨_,_,_,_,rfl,by simp,by simp,BxO.box (iQ hQ) lQ.symm (by omega) (by rw[hRQ'];simp),BxO.nil,BxO.nil,BxO.box (iT hT) lT.symm (by omega) (by rw[hRT'];simp)⟩⟩
     refine qk (f:=100000+15) func15 ntmps15 ?_
     simp (maxSteps:=mS) [-qb]
     refine qg [] _ (k:=?_)
     repeat (first|refine qd _ (hs:=by simp (maxSteps:=mS) [-getElem?_pos,eQ,zM,zP,eT];exact rfl) (k:=?_)|refine qe _ (k:=?_))
     refine qc ?_
     simp (maxSteps:=mS) [-getElem?_pos,sQ,pQ,nP,sT,pT,results15]
   ·have eP:=cP hP
    have pP:0<rp.length:=List.length_pos_iff.2 hP
    by_cases hT:rt=[]
    ·obtain⟨aT,bT⟩:=dT hT
     rw[aT,bT]
     refine⟨(.agg [.str m,.str g,.ms 41 3 σ.length 0 rq.length,.sl .sh [],.ms 54 4 (σ.length+1) 0 rp.length,.sl .sh []],σ++[RQ',RP']),?_,⟨_,_,_,_,rfl,by simp,by simp,BxO.box (iQ hQ) lQ.symm (by omega) (by rw[hRQ'];simp),BxO.nil,BxO.box (iP hP) lP.symm (by omega) (by rw[hRP'];simp),BxO.nil⟩⟩
     refine qk (f:=100000+15) func15 ntmps15 ?_
     simp (maxSteps:=mS) [-qb]
     refine qg [] _ (k:=?_)
     repeat (first|refine qd _ (hs:=by simp (maxSteps:=mS) [-getElem?_pos,eQ,zM,eP,zT];exact rfl) (k:=?_)|refine qe _ (k:=?_))
     refine qc ?_
     simp (maxSteps:=mS) [-getElem?_pos,sQ,pQ,sP,pP,nT,results15]
    ·have eT:=cT hT
     have pT:0<rt.length:=List.length_pos_iff.2 hT
     refine⟨(.agg [.str m,.str g,.ms 41 3 σ.length 0 rq.length,.sl .sh [],.ms 54 4 (σ.length+1) 0 rp.length,.ms 50 2 (σ.length+2) 0 rt.length],σ++[RQ',RP',RT']),?_,⟨_,_,_,_,rfl,by simp,by simp,BxO.box (iQ hQ) lQ.symm (by omega) (by rw[hRQ'];simp),BxO.nil,BxO.box (iP hP) lP.symm (by omega) (by rw[hRP'];simp),BxO.box (iT hT) lT.symm (by omega) (by rw[hRT'];simp)⟩⟩
     refine qk (f:=100000+15) func15 ntmps15 ?_
     simp (maxSteps:=mS) [-qb]
     refine qg [] _ (k:=?_)
     repeat (first|refine qd _ (hs:=by simp (maxSteps:=mS) [-getElem?_pos,eQ,zM,eP,eT];exact rfl) (k:=?_)|refine qe _ (k:=?_))
     refine qc ?_
     simp (maxSteps:=mS) [-getElem?_pos,sQ,pQ,sP,pP,sT,pT,results15]
  ·have eM:=cM hM
   have pM:0<ex.length:=List.length_pos_iff.2 hM
   by_cases hP:rp=[]
   ·obtain⟨aP,bP⟩:=dP hP
    rw[aP,bP]
    by_cases hT:rt=[]
    ·obtain⟨aT,bT⟩:=dT hT
     rw[aT,bT]
     refine⟨(.agg [.str m,.str g,.ms 41 3 σ.length 0 rq.length,.ms 52 2 (σ.length+1) 0 ex.length,.sl .sh [],.sl .sh []],σ++[RQ',RM']),?_,⟨_,_,_,_,rfl,by simp,by simp,BxO.box (iQ hQ) lQ.symm (by omega) (by rw[hRQ'];simp),BxO.box (iM hM) lM.symm (by omega) (by rw[hRM'];simp),BxO.nil,BxO.nil⟩⟩
     refine qk (f:=100000+15) func15 ntmps15 ?_
     simp (maxSteps:=mS) [-qb]
     refine qg [] _ (k:=?_)
     repeat (first|refine qd _ (hs:=by simp (maxSteps:=mS) [-getElem?_pos,eQ,eM,zP,zT];exact rfl) (k:=?_)|refine qe _ (k:=?_))
     refine qc ?_
     simp (maxSteps:=mS) [-getElem?_pos,sQ,pQ,pM,nP,nT,results15]
    ·have eT:=cT hT
     have pT:0<rt.length:=List.length_pos_iff.2 hT
     refine⟨(.agg [.str m,.str g,.ms 41 3 σ.length 0 rq.length,.ms 52 2 (σ.length+1) 0 ex.length,.sl .sh [],.ms 50 2 (σ.length+2) 0 rt.length],σ++[RQ',RM',RT']),?_,⟨_,_,_,_,rfl,by simp,by simp,BxO.box (iQ hQ) lQ.symm (by omega) (by rw[hRQ'];simp),BxO.box (iM hM) lM.symm (by omega) (by rw[hRM'];simp),BxO.nil,BxO.box (iT hT) lT.symm (by omega) (by rw[hRT'];simp)⟩⟩
     refine qk (f:=100000+15) func15 ntmps15 ?_
     simp (maxSteps:=mS) [-qb]
     refine qg [] _ (k:=?_)
     repeat (first|refine qd _ (hs:=by simp (maxSteps:=mS) [-getElem?_pos,eQ,eM,zP,eT];exact rfl) (k:=?_)|refine qe _ (k:=?_))
     refine qc ?_
     simp (maxSteps:=mS) [-getElem?_pos,sQ,pQ,pM,nP,sT,pT,results15]
   ·have eP:=cP hP
    have pP:0<rp.length:=List.length_pos_iff.2 hP
    by_cases hT:rt=[]
    ·obtain⟨aT,bT⟩:=dT hT
     rw[aT,bT]
     refine⟨(.agg [.str m,.str g,.ms 41 3 σ.length 0 rq.length,.ms 52 2 (σ.length+1) 0 ex.length,.ms 54 4 (σ.length+2) 0 rp.length,.sl .sh []],σ++[RQ',RM',RP']),?_,⟨_,_,_,_,rfl,by simp,by simp,BxO.box (iQ hQ) lQ.symm (by omega) (by rw[hRQ'];simp),BxO.box (iM hM) lM.symm (by omega) (by rw[hRM'];simp),BxO.box (iP hP) lP.symm (by omega) (by rw[hRP'];simp),BxO.nil⟩⟩
     refine qk (f:=100000+15) func15 ntmps15 ?_
     simp (maxSteps:=mS) [-qb]
     refine qg [] _ (k:=?_)
     repeat (first|refine qd _ (hs:=by simp (maxSteps:=mS) [-getElem?_pos,eQ,eM,eP,zT];exact rfl) (k:=?_)|refine qe _ (k:=?_))
     refine qc ?_
     simp (maxSteps:=mS) [-getElem?_pos,sQ,pQ,pM,sP,pP,nT,results15]
    ·have eT:=cT hT
     have pT:0<rt.length:=List.length_pos_iff.2 hT
     refine⟨(.agg [.str m,.str g,.ms 41 3 σ.length 0 rq.length,.ms 52 2 (σ.length+1) 0 ex.length,.ms 54 4 (σ.length+2) 0 rp.length,.ms 50 2 (σ.length+3) 0 rt.length],σ++[RQ',RM',RP',RT']),?_,⟨_,_,_,_,rfl,by simp,by simp,BxO.box (iQ hQ) lQ.symm (by omega) (by rw[hRQ'];simp),BxO.box (iM hM) lM.symm (by omega) (by rw[hRM'];simp),BxO.box (iP hP) lP.symm (by omega) (by rw[hRP'];simp),BxO.box (iT hT) lT.symm (by omega) (by rw[hRT'];simp)⟩⟩
     refine qk (f:=100000+15) func15 ntmps15 ?_
     simp (maxSteps:=mS) [-qb]
     refine qg [] _ (k:=?_)
     repeat (first|refine qd _ (hs:=by simp (maxSteps:=mS) [-getElem?_pos,eQ,eM,eP,eT];exact rfl) (k:=?_)|refine qe _ (k:=?_))
     refine qc ?_
     simp (maxSteps:=mS) [-getElem?_pos,sQ,pQ,pM,sP,pP,sT,pT,results15]
theorem qsm (f:Mf) (hf:MfB f) (σ:List (List AV)):∃r,ev (100000+15) [mfF f] σ=some r∧CnB σ (canonM f) r:=qsl f.m f.g f.rq f.ex f.rp f.rt hf σ
end Go.Proofs.Tryz.Ai
end
section
namespace Go.Proofs.Tryz.Ai
open Go Go.AI Go.Proofs
theorem fstO2 (a b:Int):fstE [a,b]=orI a b:=by simp[fstE,qek]
theorem qnx (l:List Rq) (hl:l.length≤2^29) (x:Rq) (hx:x.1.length≤2^29∧x.2.1.length≤2^29) (σ):ev 88 [.sl .sh (l.map rqF),rqF x] σ=some (.int .i64 (orI (checkB x.1 x.2.1:Int) (if l.any (isQ x.1) then 12 else 0)),σ):=by
 have h5:=qes x.1 x.2.1 (by have:=hx.1;omega) (by have:=hx.2;omega)
 obtain⟨x1,x2,x3⟩:=x
 simp only at h5 ⊢
 obtain⟨E,hE⟩:∃E:Nat,checkB x1 x2=E:=⟨_,rfl⟩
 rw[hE] at h5 ⊢
 obtain⟨A,hA⟩:∃A,(if l.any (isQ x1) then (12:Int) else 0)=A:=⟨_,rfl⟩
 rw[hA,rqFx]
 refine qk func88 ntmps88 ?_
 by_cases hE0:E=0
 ·subst hE0
  have hO:orI ((0:Nat):Int) A=A:=rfl
  rw[hO]
  simp (maxSteps:=mS) [-Prod.forall,-Prod.exists,h5]
  refine qf (I:=fun i:Nat=>⟨[(0,.sl .sh (l.map rqF)),(3,.lp 3 0),(6,.int .i64 i)],[(3,[.str x1,.str x2,.bool x3])],σ⟩) (Pr:=fun i=>i≤l.length∧(l.take i).any (isQ x1)=false) (μ:=fun i=>l.length-i) (a:=0) (by simp) (by simp) ?_
  rintro i ⟨hi,hn⟩
  have w1:=wr1 i (by omega)
  by_cases hc:i<l.length
  ·obtain⟨y,hy⟩:=getS hc
   have hin:=qad hy hn
   have hany:(isQ x1) y=true→l.any (isQ x1)=true:=fun h=>List.any_eq_true.2 ⟨y,List.mem_of_getElem? hy,h⟩
   obtain⟨y1,y2,y3⟩:=y
   have hI:(isQ x1) (y1,y2,y3)=(y1==x1):=rfl
   by_cases e1:(y1==x1)=true
   ·have hh:=hany (by rw[hI,e1])
    rw[hh,if_pos rfl] at hA
    simp (maxSteps:=mS) [-getElem?_pos,-Prod.exists,-Bool.and_eq_true,-beq_iff_eq,-qb,hc]
    refine qg [] _ (k:=?_)
    repeat (first|refine qd _ (hs:=by simp (maxSteps:=mS) [-getElem?_pos,-Bool.and_eq_true,-beq_iff_eq,hc,hy,rqFx,e1];exact rfl) (k:=?_)|refine qe _ (k:=?_))
    refine qc ?_
    simp (maxSteps:=mS) [hA,results88]
   ·have e1':(y1==x1)=false:=by simpa using e1
    have hin:=(hin.trans hI).trans e1'
    simp (maxSteps:=mS) [-getElem?_pos,-Prod.exists,-Prod.forall,-Bool.and_eq_true,-beq_iff_eq,-qb,hc]
    refine qg [] _ (k:=?_)
    repeat (first|refine qd _ (hs:=by simp (maxSteps:=mS) [-getElem?_pos,-Bool.and_eq_true,-Bool.and_eq_false_imp,-beq_iff_eq,-beq_eq_false_iff_ne,hc,hy,rqFx,e1'];exact rfl) (k:=?_)|refine qe _ (k:=?_))
    refine qc ?_
    simp (maxSteps:=mS) [-Prod.exists,-Prod.forall,w1]
    exact⟨i+1,⟨by omega,by simpa[-Prod.forall] using hin⟩,by omega,by simp⟩
  ·rw[List.take_of_length_le (by omega)] at hn
   rw[hn,if_neg (by simp)] at hA
   simp (maxSteps:=mS) [hc,hA,results88]
 ·have hE0':¬((E:Nat):Int)=0:=by omega
  have hO:orI ((E:Nat):Int) A=E:=if_neg hE0'
  simp (maxSteps:=mS) [h5,hE0,hE0',hO,results88]
theorem qny (l:List (List UInt8×List UInt8)) (hl:l.length≤2^29) (x:List UInt8×List UInt8) (hx:qcu x) (σ):ev 89 [.sl .sh (l.map modA),modA x] σ=some (.int .i64 (orI (checkB x.1 x.2:Int) (if l.any (isM x) then 12 else 0)),σ):=by
 have h5:=qes x.1 x.2 (by have:=hx.1;omega) (by have:=hx.2;omega)
 obtain⟨x1,x2⟩:=x
 simp only at h5 ⊢
 obtain⟨E,hE⟩:∃E:Nat,checkB x1 x2=E:=⟨_,rfl⟩
 rw[hE] at h5 ⊢
 obtain⟨A,hA⟩:∃A,(if l.any (isM (x1,x2)) then (12:Int) else 0)=A:=⟨_,rfl⟩
 rw[hA,modAx]
 refine qk func89 ntmps89 ?_
 by_cases hE0:E=0
 ·subst hE0
  have hO:orI ((0:Nat):Int) A=A:=rfl
  rw[hO]
  simp (maxSteps:=mS) [-Prod.forall,-Prod.exists,h5]
  refine qf (I:=fun i:Nat=>⟨[(0,.sl .sh (l.map modA)),(3,.lp 3 0),(6,.int .i64 i)],[(3,[.str x1,.str x2])],σ⟩) (Pr:=fun i=>i≤l.length∧(l.take i).any (isM (x1,x2))=false) (μ:=fun i=>l.length-i) (a:=0) (by simp) (by simp) ?_
  rintro i ⟨hi,hn⟩
  have w1:=wr1 i (by omega)
  by_cases hc:i<l.length
  ·obtain⟨y,hy⟩:=getS hc
   have hin:=qad hy hn
   have hany:(isM (x1,x2)) y=true→l.any (isM (x1,x2))=true:=fun h=>List.any_eq_true.2 ⟨y,List.mem_of_getElem? hy,h⟩
   obtain⟨y1,y2⟩:=y
   have hI:(isM (x1,x2)) (y1,y2)=(y1==x1&&y2==x2):=rfl
   by_cases e1:(y1==x1&&y2==x2)=true
   ·have hh:=hany (by rw[hI,e1])
    rw[hh,if_pos rfl] at hA
    simp (maxSteps:=mS) [-getElem?_pos,-Prod.exists,-Bool.and_eq_true,-beq_iff_eq,-qb,hc]
    refine qg [] _ (k:=?_)
    repeat (first|refine qd _ (hs:=by simp (maxSteps:=mS) [-getElem?_pos,-Bool.and_eq_true,-beq_iff_eq,hc,hy,modAx,e1];exact rfl) (k:=?_)|refine qe _ (k:=?_))
    refine qc ?_
    simp (maxSteps:=mS) [hA,results89]
   ·have e1':(y1==x1&&y2==x2)=false:=by simpa using e1
    have hin:=(hin.trans hI).trans e1'
    simp (maxSteps:=mS) [-getElem?_pos,-Prod.exists,-Prod.forall,-Bool.and_eq_true,-beq_iff_eq,-qb,hc]
    refine qg [] _ (k:=?_)
    repeat (first|refine qd _ (hs:=by simp (maxSteps:=mS) [-getElem?_pos,-Bool.and_eq_true,-Bool.and_eq_false_imp,-beq_iff_eq,-beq_eq_false_iff_ne,hc,hy,modAx,e1'];exact rfl) (k:=?_)|refine qe _ (k:=?_))
    refine qc ?_
    simp (maxSteps:=mS) [-Prod.exists,-Prod.forall,w1]
    exact⟨i+1,⟨by omega,by simpa[-Prod.forall] using hin⟩,by omega,by simp⟩
  ·rw[List.take_of_length_le (by omega)] at hn
   rw[hn,if_neg (by simp)] at hA
   simp (maxSteps:=mS) [hc,hA,results89]
 ·have hE0':¬((E:Nat):Int)=0:=by omega
  have hO:orI ((E:Nat):Int) A=E:=if_neg hE0'
  simp (maxSteps:=mS) [h5,hE0,hE0',hO,results89]
theorem qnz (l:List Rp) (hl:l.length≤2^29) (x:Rp) (h1:qcu x.1) (h2:qcu x.2) (σ):ev 90 [.sl .sh (l.map rpF),rpF x] σ=some (.int .i64 (orI (rpE x) (if l.any (fun y=>isM x.1 y.1) then 12 else 0)),σ):=by
 have hP:=qct x.1.1
 have hC1:=qes x.1.1 x.1.2 (by have:=h1.1;omega) (by have:=h1.2;omega)
 have hC2:=qes x.2.1 x.2.2 (by have:=h2.1;omega) (by have:=h2.2;omega)
 have hR:rpE x=fstE [fstE [(pathB x.1.1:Int),if x.1.2=[] then 0 else (checkB x.1.1 x.1.2:Int)],(checkB x.2.1 x.2.2:Int)]:=rfl
 obtain⟨⟨x1,x2⟩,x3,x4⟩:=x
 simp only at hP hC1 hC2 hR ⊢
 obtain⟨e1,he1⟩:∃e:Int,(pathB x1:Int)=e:=⟨_,rfl⟩
 obtain⟨e2,he2⟩:∃e:Int,(checkB x1 x2:Int)=e:=⟨_,rfl⟩
 obtain⟨e3,he3⟩:∃e:Int,(checkB x3 x4:Int)=e:=⟨_,rfl⟩
 rw[he1] at hP hR
 rw[he2] at hC1 hR
 rw[he3] at hC2 hR
 rw[hR,fstO2,fstO2]
 clear hR he1 he2 he3
 obtain⟨A,hA⟩:∃A,(if l.any (fun y=>isM (x1,x2) y.1) then (12:Int) else 0)=A:=⟨_,rfl⟩
 rw[hA,rpFx]
 refine qk func90 ntmps90 ?_
 by_cases z1:e1=0
 ·subst z1
  have hO1:∀y,orI 0 y=y:=fun y=>rfl
  rw[hO1]
  by_cases hv:x2=[]
  ·have hv':(x2==[])=true:=by simpa using hv
   rw[if_pos hv,hO1]
   by_cases z3:e3=0
   ·subst z3
    rw[hO1]
    simp (maxSteps:=mS) [-Prod.forall,-Prod.exists,hP,hv',hC2]
    refine qf (I:=fun i:Nat=>⟨[(0,.sl .sh (l.map rpF)),(3,.lp 3 0),(6,.int .i64 i)],[(3,[.str x1,.str x2,.str x3,.str x4])],σ⟩) (Pr:=fun i=>i≤l.length∧(l.take i).any (fun y=>isM (x1,x2) y.1)=false) (μ:=fun i=>l.length-i) (a:=0) (by simp) (by simp) ?_
    rintro i ⟨hi,hn⟩
    have w1:=wr1 i (by omega)
    by_cases hc:i<l.length
    ·obtain⟨y,hy⟩:=getS hc
     have hin:=qad hy hn
     have hany:(fun y=>isM (x1,x2) y.1) y=true→l.any (fun y=>isM (x1,x2) y.1)=true:=fun h=>List.any_eq_true.2 ⟨y,List.mem_of_getElem? hy,h⟩
     obtain⟨⟨y1,y2⟩,y3,y4⟩:=y
     have hI:(fun y=>isM (x1,x2) y.1) ((y1,y2),y3,y4)=(y1==x1&&y2==x2):=rfl
     by_cases e1:(y1==x1&&y2==x2)=true
     ·have hh:=hany (by rw[hI,e1])
      rw[hh,if_pos rfl] at hA
      simp (maxSteps:=mS) [-getElem?_pos,-Prod.exists,-Bool.and_eq_true,-beq_iff_eq,-qb,hc]
      refine qg [] _ (k:=?_)
      repeat (first|refine qd _ (hs:=by simp (maxSteps:=mS) [-getElem?_pos,-Bool.and_eq_true,-beq_iff_eq,hc,hy,rpFx,e1];exact rfl) (k:=?_)|refine qe _ (k:=?_))
      refine qc ?_
      simp (maxSteps:=mS) [hA,results90]
     ·have e1':(y1==x1&&y2==x2)=false:=by simpa using e1
      have hin:=(hin.trans hI).trans e1'
      simp (maxSteps:=mS) [-getElem?_pos,-Prod.exists,-Prod.forall,-Bool.and_eq_true,-beq_iff_eq,-qb,hc]
      refine qg [] _ (k:=?_)
      repeat (first|refine qd _ (hs:=by simp (maxSteps:=mS) [-getElem?_pos,-Bool.and_eq_true,-Bool.and_eq_false_imp,-beq_iff_eq,-beq_eq_false_iff_ne,hc,hy,rpFx,e1'];exact rfl) (k:=?_)|refine qe _ (k:=?_))
      refine qc ?_
      simp (maxSteps:=mS) [-Prod.exists,-Prod.forall,w1]
      exact⟨i+1,⟨by omega,by simpa[-Prod.forall] using hin⟩,by omega,by simp⟩
    ·rw[List.take_of_length_le (by omega)] at hn
     rw[hn,if_neg (by simp)] at hA
     simp (maxSteps:=mS) [hc,hA,results90]
   ·have hO:orI e3 A=e3:=if_neg z3
    simp (maxSteps:=mS) [hP,hv',hC2,z3,hO,results90]
  ·have hv':(x2==[])=false:=by simpa using hv
   rw[if_neg hv]
   by_cases z2:e2=0
   ·subst z2
    rw[hO1]
    by_cases z3:e3=0
    ·subst z3
     rw[hO1]
     simp (maxSteps:=mS) [-Prod.forall,-Prod.exists,hP,hv',hC1,hC2]
     refine qf (I:=fun i:Nat=>⟨[(0,.sl .sh (l.map rpF)),(3,.lp 3 0),(6,.int .i64 i)],[(3,[.str x1,.str x2,.str x3,.str x4])],σ⟩) (Pr:=fun i=>i≤l.length∧(l.take i).any (fun y=>isM (x1,x2) y.1)=false) (μ:=fun i=>l.length-i) (a:=0) (by simp) (by simp) ?_
     rintro i ⟨hi,hn⟩
     have w1:=wr1 i (by omega)
     by_cases hc:i<l.length
     ·obtain⟨y,hy⟩:=getS hc
      have hin:=qad hy hn
      have hany:(fun y=>isM (x1,x2) y.1) y=true→l.any (fun y=>isM (x1,x2) y.1)=true:=fun h=>List.any_eq_true.2 ⟨y,List.mem_of_getElem? hy,h⟩
      obtain⟨⟨y1,y2⟩,y3,y4⟩:=y
      have hI:(fun y=>isM (x1,x2) y.1) ((y1,y2),y3,y4)=(y1==x1&&y2==x2):=rfl
      by_cases e1:(y1==x1&&y2==x2)=true
      ·have hh:=hany (by rw[hI,e1])
       rw[hh,if_pos rfl] at hA
       simp (maxSteps:=mS) [-getElem?_pos,-Prod.exists,-Bool.and_eq_true,-beq_iff_eq,-qb,hc]
       refine qg [] _ (k:=?_)
       repeat (first|refine qd _ (hs:=by simp (maxSteps:=mS) [-getElem?_pos,-Bool.and_eq_true,-beq_iff_eq,hc,hy,rpFx,e1];exact rfl) (k:=?_)|refine qe _ (k:=?_))
       refine qc ?_
       simp (maxSteps:=mS) [hA,results90]
      ·have e1':(y1==x1&&y2==x2)=false:=by simpa using e1
       have hin:=(hin.trans hI).trans e1'
       simp (maxSteps:=mS) [-getElem?_pos,-Prod.exists,-Prod.forall,-Bool.and_eq_true,-beq_iff_eq,-qb,hc]
       refine qg [] _ (k:=?_)
       repeat (first|refine qd _ (hs:=by simp (maxSteps:=mS) [-getElem?_pos,-Bool.and_eq_true,-Bool.and_eq_false_imp,-beq_iff_eq,-beq_eq_false_iff_ne,hc,hy,rpFx,e1'];exact rfl) (k:=?_)|refine qe _ (k:=?_))
       refine qc ?_
       simp (maxSteps:=mS) [-Prod.exists,-Prod.forall,w1]
       exact⟨i+1,⟨by omega,by simpa[-Prod.forall] using hin⟩,by omega,by simp⟩
     ·rw[List.take_of_length_le (by omega)] at hn
      rw[hn,if_neg (by simp)] at hA
      simp (maxSteps:=mS) [hc,hA,results90]
    ·have hO:orI e3 A=e3:=if_neg z3
     simp (maxSteps:=mS) [hP,hv',hC1,hC2,z3,hO,results90]
   ·have hO:orI (orI e2 e3) A=e2:=by rw[show orI e2 e3=e2 from if_neg z2];exact if_neg z2
    simp (maxSteps:=mS) [hP,hv',hC1,z2,hO,results90]
 ·have hO:∀y z,orI (orI (orI e1 y) z) A=e1:=fun y z=>by rw[show orI e1 y=e1 from if_neg z1,show orI e1 z=e1 from if_neg z1];exact if_neg z1
  rw[hO]
  simp (maxSteps:=mS) [hP,z1,results90]
theorem qn0 (l:List Rt) (hl:l.length≤2^29) (x:Rt) (hx:qcu x) (σ):ev 91 [.sl .sh (l.map rtF),rtF x] σ=some (.int .i64 (orI (rtE x) (if l.any (isM x) then 12 else 0)),σ):=by
 have hV1:=qgx x.1 (by have:=hx.1;omega)
 have hV2:=qgx x.2 (by have:=hx.2;omega)
 have hC:=qcr x.1 x.2 (by have:=hx.1;omega) (by have:=hx.2;omega)
 have hR:rtE x=fstE [if (readB x.1).isSome&&(readB x.2).isSome then 0 else 8,if cmpB x.1 x.2>0 then 6 else 0]:=rfl
 obtain⟨x1,x2⟩:=x
 simp only at hV1 hV2 hC hR ⊢
 obtain⟨v1,hv1⟩:∃b,(readB x1).isSome=b:=⟨_,rfl⟩
 obtain⟨v2,hv2⟩:∃b,(readB x2).isSome=b:=⟨_,rfl⟩
 obtain⟨c,hc⟩:∃c,cmpB x1 x2=c:=⟨_,rfl⟩
 rw[hv1] at hV1 hR
 rw[hv2] at hV2 hR
 rw[hc] at hC hR
 rw[hR,fstO2]
 clear hR hv1 hv2 hc
 obtain⟨A,hA⟩:∃A,(if l.any (isM (x1,x2)) then (12:Int) else 0)=A:=⟨_,rfl⟩
 rw[hA,rtFx]
 refine qk func91 ntmps91 ?_
 have hO1:∀y,orI 0 y=y:=fun y=>rfl
 have h8:∀y,orI 8 y=8:=fun y=>rfl
 have h6:∀y,orI 6 y=6:=fun y=>rfl
 cases v1 with
 | false=>simp (maxSteps:=mS) [hV1,h8,results91]
 | true =>
  cases v2 with
  | false=>simp (maxSteps:=mS) [hV1,hV2,h8,results91]
  | true =>
   rw[if_pos (by rfl),hO1]
   by_cases hc:0<c
   ·rw[if_pos hc,h6]
    simp (maxSteps:=mS) [hV1,hV2,hC,hc,results91]
   ·rw[if_neg hc,hO1]
    simp (maxSteps:=mS) [-Prod.forall,-Prod.exists,hV1,hV2,hC,hc]
    clear hc
    refine qf (I:=fun i:Nat=>⟨[(0,.sl .sh (l.map rtF)),(3,.lp 3 0),(5,.int .i64 i)],[(3,[.str x1,.str x2])],σ⟩) (Pr:=fun i=>i≤l.length∧(l.take i).any (isM (x1,x2))=false) (μ:=fun i=>l.length-i) (a:=0) (by simp) (by simp) ?_
    rintro i ⟨hi,hn⟩
    have w1:=wr1 i (by omega)
    by_cases hc:i<l.length
    ·obtain⟨y,hy⟩:=getS hc
     have hin:=qad hy hn
     have hany:(isM (x1,x2)) y=true→l.any (isM (x1,x2))=true:=fun h=>List.any_eq_true.2 ⟨y,List.mem_of_getElem? hy,h⟩
     obtain⟨y1,y2⟩:=y
     have hI:(isM (x1,x2)) (y1,y2)=(y1==x1&&y2==x2):=rfl
     by_cases e1:(y1==x1&&y2==x2)=true
     ·have hh:=hany (by rw[hI,e1])
      rw[hh,if_pos rfl] at hA
      simp (maxSteps:=mS) [-getElem?_pos,-Prod.exists,-Bool.and_eq_true,-beq_iff_eq,-qb,hc]
      refine qg [] _ (k:=?_)
      repeat (first|refine qd _ (hs:=by simp (maxSteps:=mS) [-getElem?_pos,-Bool.and_eq_true,-beq_iff_eq,hc,hy,rtFx,e1];exact rfl) (k:=?_)|refine qe _ (k:=?_))
      refine qc ?_
      simp (maxSteps:=mS) [hA,results91]
     ·have e1':(y1==x1&&y2==x2)=false:=by simpa using e1
      have hin:=(hin.trans hI).trans e1'
      simp (maxSteps:=mS) [-getElem?_pos,-Prod.exists,-Prod.forall,-Bool.and_eq_true,-beq_iff_eq,-qb,hc]
      refine qg [] _ (k:=?_)
      repeat (first|refine qd _ (hs:=by simp (maxSteps:=mS) [-getElem?_pos,-Bool.and_eq_true,-Bool.and_eq_false_imp,-beq_iff_eq,-beq_eq_false_iff_ne,hc,hy,rtFx,e1'];exact rfl) (k:=?_)|refine qe _ (k:=?_))
      refine qc ?_
      simp (maxSteps:=mS) [-Prod.exists,-Prod.forall,w1]
      exact⟨i+1,⟨by omega,by simpa[-Prod.forall] using hin⟩,by omega,by simp⟩
    ·rw[List.take_of_length_le (by omega)] at hn
     rw[hn,if_neg (by simp)] at hA
     simp (maxSteps:=mS) [hc,hA,results91]
end Go.Proofs.Tryz.Ai
end
