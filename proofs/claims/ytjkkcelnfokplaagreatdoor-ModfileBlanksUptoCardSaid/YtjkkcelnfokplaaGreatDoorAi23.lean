/- Part 23 of a proof: a Go function is evaluated on abstract values (texts D9 .. D22); no conditions beyond those of each theorem. -/
import Derived.Test.YtjkkcelnfokplaaGreatDoorAi22
set_option linter.all false
set_option linter.unusedVariables false
set_option linter.unusedSimpArgs false
set_option linter.unnecessarySimpa false
section
namespace Go.AI
section
variable {P:Program} {hh:Hint} {C:Oracle} {CP:Panics}
theorem qal {l l':List Oper} {st:St} {r:AV} (ds:List Nat) (o:Oper) (st0:St) (h1:(List.range (l.length-1)).all (fun j=>befL l j (l.length-1))=true) (h2:l[l.length-1]? = some o) (h3:allocDs l=ds)
  (h4:startD ds st=st0) (h5:l.take (l.length-1)=l') (k:PostD (runD P hh C ds l l' st0) fun st1=>wantedA l o.guard st1=some true∧okAll ds st1.t (wrT hh o)=true∧panOp hh CP o st1 r):panRD P hh C CP l st r:=by
 refine⟨h1,?_⟩
 rw[h2,qb5,h3,h4,h5]
 exact k
end
end Go.AI
namespace Go.Proofs.Tryz.Ai
open Go Go.AI Go.Proofs
set_option maxHeartbeats 8000000
set_option maxRecDepth 4000
set_option linter.unusedVariables false
def slN (t:TypeId) (n:Nat) (xs:List AV):AV:=match xs with
 | []=>.sl .nil []
 | x::r=>.sl (.ex t n) (x::r)
theorem qbv (t:TypeId) (n:Nat) (xs:List AV) (x:AV):slN t n (xs++[x])=.sl (.ex t n) (xs++[x]):=by
 cases xs<;>rfl
theorem q8 (t:TypeId) (n:Nat) (xs:List AV):(xs=[]∧slN t n xs=.sl .nil [])∨slN t n xs=.sl (.ex t n) xs:=by
 cases xs with
 | nil=>exact .inl ⟨rfl,rfl⟩
 | cons x r=>exact .inr rfl
structure Ps where
 f:Mf
 line:Int
 blk:List UInt8
 ind:Bool
 md:Bool
def psC (p:Ps):List AV:=[.str p.f.m,.str p.f.g,slN 41 3 (p.f.rq.map rqF),slN 52 2 (p.f.ex.map modA),slN 54 4 (p.f.rp.map rpF),slN 50 2 (p.f.rt.map rtF),.int .i64 p.line,.str p.blk,.bool p.ind,.bool p.md]
def TkB (l:List Tok):Prop:=l.length≤2^28∧∀t∈l,t.2.length≤2^28
def stE (e:Int) (q:Ps):Except Int Ps:=if e=0 then .ok q else .error e
def StOk (g:FuncId) (R:Ps→List Tok→Except Int Ps):Prop :=
 ∀(b:Nat) (sh:Option (TypeId×Nat)) (p:Ps) (l:List Tok) (σ:List (List AV)),MfB p.f→TkB l→σ[b]? = some (psC p) →
  match R p l with
  | .ok q=>ev g [.gp b 0 sh,.sl .sh (l.map tkF)] σ=some (.tup [],σ.set b (psC q))
  | .error e=>pc g [.gp b 0 sh,.sl .sh (l.map tkF)] σ (fltV p.line e)
theorem textsB_len (l:List Tok):(textsB l).length=(l.map (·.1)).countP (·==119):=by
 unfold textsB
 rw[List.length_map,List.countP_map,List.countP_eq_length_filter];rfl
theorem qd1 {l:List Tok} {k:List UInt8} {ws:List (List UInt8)} (h:wordsB l k=some ws):ws.length=k.countP (·==119):=by
 unfold wordsB at h
 split at h
 ·rename_i hk
  injection h with h
  unfold kindsB at hk
  rw[beq_iff_eq] at hk
  rw[← h,textsB_len,hk]
 ·cases h
theorem qp {l:List Tok} (hl:TkB l) {k:List UInt8} {ws:List (List UInt8)} (h:wordsB l k=some ws) {s:List UInt8} (hs:s∈ws):s.length≤2^28:=by
 unfold wordsB at h
 split at h
 ·injection h with h
  subst h
  unfold textsB at hs
  obtain⟨t,ht,rfl⟩:=List.mem_map.1 hs
  exact hl.2 t (List.mem_filter.1 ht).1
 ·cases h
theorem qse {l:List Tok} {k:List UInt8} {ws:List (List UInt8)} (h:wordsB l k=some ws) (hk:k.countP (·==119)=1):∃a,ws=[a]:=by
 have:=qd1 h
 rw[hk] at this
 match ws,this with
 | [a],_=>exact⟨a,rfl⟩
theorem qsf {l:List Tok} {k:List UInt8} {ws:List (List UInt8)} (h:wordsB l k=some ws) (hk:k.countP (·==119)=2):∃a b,ws=[a,b]:=by
 have:=qd1 h
 rw[hk] at this
 match ws,this with
 | [a,b],_=>exact⟨a,b,rfl⟩
theorem q2r {l:List Tok} {k:List UInt8} {ws:List (List UInt8)} (h:wordsB l k=some ws) (hk:k.countP (·==119)=3):∃a b c,ws=[a,b,c]:=by
 have:=qd1 h
 rw[hk] at this
 match ws,this with
 | [a,b,c],_=>exact⟨a,b,c,rfl⟩
theorem q2s {l:List Tok} {k:List UInt8} {ws:List (List UInt8)} (h:wordsB l k=some ws) (hk:k.countP (·==119)=4):∃a b c d,ws=[a,b,c,d]:=by
 have:=qd1 h
 rw[hk] at this
 match ws,this with
 | [a,b,c,d],_=>exact⟨a,b,c,d,rfl⟩
theorem qc7 {σ:List (List AV)} {b:Nat} (h:b<σ.length) (x:List AV) (J:List (List AV)):(σ++J).set b x=σ.set b x++J:=by rw[List.set_append_left _ _ h]
theorem qx {σ:List (List AV)} {b:Nat} {c:List AV} (h:σ[b]? = some c) (J:List (List AV)):(σ++J)[b]? = some c:=by rw[List.getElem?_append_left (List.getElem?_eq_some_iff.1 h).1,h]
theorem qd2 {σ:List (List AV)} {b:Nat} (h:b<σ.length) (y x:List AV) (J:List (List AV)):(σ.set b y++J).set b x=σ.set b x++J:=by rw[List.set_append_left _ _ (by simpa using h),List.set_set]
theorem qa7 {σ:List (List AV)} {b:Nat} (cs:List AV) (J:List (List AV)) (h:lowL σ.length cs):lowS σ (σ.set b cs++J):=by
 intro k hk
 rw[List.getElem?_append_left (by simpa using hk),List.getElem?_set]
 split
 ·rename_i e
  subst e
  rw[if_pos hk]
  exact .inr ⟨cs,rfl,h⟩
 ·exact .inl rfl
theorem qg6 {σ:List (List AV)} {b:Nat} (cs:List AV) (h:lowL σ.length cs):lowS σ (σ.set b cs):=by have:=qa7 (b:=b) cs [] h;rwa [List.append_nil] at this
theorem take_app {σ:List (List AV)} {b:Nat} (c:List AV) (J:List (List AV)):(σ.set b c++J).take σ.length=σ.set b c:=by
 rw[List.take_append_of_le_length (by simp),List.take_of_length_le (by simp)]
theorem qbr {σ:List (List AV)} {b:Nat} (h:b<σ.length) (c:List AV):(σ.set b c)[b]? = some c:=by rw[List.getElem?_set_self h]
def mdP (p:Ps) (l:List Tok):Except Int Ps:=match wordsB l [119] with
 | some [s]=>stE (fstE [if p.md then 12 else 0,(pathB s:Int)]) {p with md:=true,f:={p.f with m:=s}}
 | _=>.error 11
theorem qjt:StOk 177 mdP:=by
 intro b sh p l σ hp hl hb
 have hbl:=(List.getElem?_eq_some_iff.1 hb).1
 have hg:=fun c=>qbr hbl c
 unfold mdP
 cases hw:wordsB l [119] with
 | none =>
  have h1:=form_pan b sh l (by have:=hl.1;omega) [119] (by simp) hw σ _ p.line hb rfl
  show pc _ _ _ _
  refine qaa 0 2 rfl Tryz.func177 rfl (by simp[Tryz.ntmps177]) (by kernel_rfl) (by kernel_rfl) ?_
  simp (maxSteps:=4000000) [h1]
 | some ws =>
  obtain⟨s,rfl⟩:=qse hw (by decide)
  have hf:=form_ok b sh l (by have:=hl.1;omega) [119] (by simp) _ hw
  have hs:=qp hl hw (List.mem_singleton_self s)
  have hP:=qcg s (by omega)
  have hW:=fun b e=>qau b e
  have h2:=fun a b=>qan [a,b] (by simp)
  simp only[List.map_cons,List.map_nil] at hf h2
  obtain⟨pp,hpp⟩:∃e:Int,(pathB s:Int)=e:=⟨_,rfl⟩
  rw[hpp] at hP
  simp only[hpp,stE]
  obtain⟨⟨m,g,rq,ex,rp,rt⟩,line,blk,ind,md⟩:=p
  simp only[psC] at hb ⊢
  obtain⟨A1,hA1⟩:∃A,slN 41 3 (rq.map rqF)=A:=⟨_,rfl⟩
  obtain⟨A2,hA2⟩:∃A,slN 52 2 (ex.map modA)=A:=⟨_,rfl⟩
  obtain⟨A3,hA3⟩:∃A,slN 54 4 (rp.map rpF)=A:=⟨_,rfl⟩
  obtain⟨A4,hA4⟩:∃A,slN 50 2 (rt.map rtF)=A:=⟨_,rfl⟩
  rw[hA1,hA2,hA3,hA4] at hb
  by_cases he:fstE [if md=true then 12 else 0,pp]=0
  ·have hm:=qbq b sh
   rw[if_pos he]
   simp only[hA1,hA2,hA3,hA4]
   show ev _ _ _=_
   refine qf rfl Tryz.func177 rfl (by simp[Tryz.ntmps177]) (by kernel_rfl) (by kernel_rfl) ?_
   simp (maxSteps:=4000000) [-getElem?_pos,hf,hb,hP,hW,h2,he,hm,hg,hbl,Tryz.results177]
  ·have hm:=qab b sh σ _ line _ hb rfl he
   rw[if_neg he]
   show pc _ _ _ _
   refine qaa 1 10 rfl Tryz.func177 rfl (by simp[Tryz.ntmps177]) (by kernel_rfl) (by kernel_rfl) ?_
   simp (maxSteps:=4000000) [-getElem?_pos,hf,hb,hP,hW,h2,hm]
def goP (p:Ps) (l:List Tok):Except Int Ps:=match wordsB l [119] with
 | some [s]=>stE (fstE [if (minorB s).isSome then 0 else 11,if p.f.g=[] then 0 else 12]) {p with f:={p.f with g:=s}}
 | _=>.error 11
theorem qsg:StOk 178 goP:=by
 intro b sh p l σ hp hl hb
 have hbl:=(List.getElem?_eq_some_iff.1 hb).1
 have hg:=fun c=>qbr hbl c
 unfold goP
 cases hw:wordsB l [119] with
 | none =>
  have h1:=form_pan b sh l (by have:=hl.1;omega) [119] (by simp) hw σ _ p.line hb rfl
  show pc _ _ _ _
  refine qaa 0 2 rfl Tryz.func178 rfl (by simp[Tryz.ntmps178]) (by kernel_rfl) (by kernel_rfl) ?_
  simp (maxSteps:=4000000) [h1]
 | some ws =>
  obtain⟨s,rfl⟩:=qse hw (by decide)
  have hf:=form_ok b sh l (by have:=hl.1;omega) [119] (by simp) _ hw
  have hs:=qp hl hw (List.mem_singleton_self s)
  have hP:=qnr s (by omega)
  have hW:=fun b e=>qau b e
  have h2:=fun a b=>qan [a,b] (by simp)
  simp only[List.map_cons,List.map_nil] at hf h2
  obtain⟨pp,hpp⟩:∃e,(minorB s).isSome=e:=⟨_,rfl⟩
  rw[hpp] at hP
  simp only[hpp,stE]
  obtain⟨⟨m,g,rq,ex,rp,rt⟩,line,blk,ind,md⟩:=p
  simp only[psC] at hb ⊢
  obtain⟨A1,hA1⟩:∃A,slN 41 3 (rq.map rqF)=A:=⟨_,rfl⟩
  obtain⟨A2,hA2⟩:∃A,slN 52 2 (ex.map modA)=A:=⟨_,rfl⟩
  obtain⟨A3,hA3⟩:∃A,slN 54 4 (rp.map rpF)=A:=⟨_,rfl⟩
  obtain⟨A4,hA4⟩:∃A,slN 50 2 (rt.map rtF)=A:=⟨_,rfl⟩
  rw[hA1,hA2,hA3,hA4] at hb
  obtain⟨E,hE⟩:∃E,fstE [if pp=true then 0 else 11,if g=[] then 0 else 12]=E:=⟨_,rfl⟩
  rw[hE]
  have e00:fstE [0,0]=0:=rfl
  by_cases he:E=0
  ·have hm:=qbq b sh
   rw[if_pos he]
   simp only[hA1,hA2,hA3,hA4]
   show ev _ _ _=_
   subst he
   by_cases hg0:g=[]
   ·subst hg0
    rw[if_pos rfl] at hE
    cases pp with
    | false=>simp[fstE,orI] at hE
    | true =>
     refine qf rfl Tryz.func178 rfl (by simp[Tryz.ntmps178]) (by kernel_rfl) (by kernel_rfl) ?_
     simp (maxSteps:=4000000) [-getElem?_pos,-qb,hf,hb,hP]
     refine qg [] _ (k:=?_)
     repeat (first|refine qd _ (hs:=by simp (maxSteps:=4000000) [-getElem?_pos,hf,hb,hP,hW,h2,hm,hg,hbl,e00];exact rfl) (k:=?_)|refine qe _ (k:=?_))
     refine qc ?_
     simp (maxSteps:=4000000) [-getElem?_pos,hb,hg,hbl,Tryz.results178]
   ·rw[if_neg hg0] at hE
    cases pp<;>simp[fstE,orI] at hE
  ·have hm:=qab b sh σ _ line _ hb rfl he
   rw[if_neg he]
   show pc _ _ _ _
   by_cases hg0:g=[]
   ·subst hg0
    rw[if_pos rfl] at hE
    cases pp with
    | true=>exact absurd hE.symm he
    | false =>
     replace hE:fstE [11,0]=E:=hE
     refine qaa 2 13 rfl Tryz.func178 rfl (by simp[Tryz.ntmps178]) (by kernel_rfl) (by kernel_rfl) ?_
     simp (maxSteps:=4000000) [-getElem?_pos,hf,hb,hP]
     refine qal [] _ _ (by kernel_rfl) (by rfl) (by rfl) (by simp (maxSteps:=4000000) [];exact rfl) (by simp only[List.length_cons,List.length_nil,Nat.reduceAdd,Nat.reduceSub,List.take_succ_cons,List.take_zero];exact rfl) ?_
     repeat (first|refine qd _ (hs:=by simp (maxSteps:=4000000) [-getElem?_pos,hb,hW,h2,hE];exact rfl) (k:=?_)|refine qe _ (k:=?_))
     refine qc ?_
     simp (maxSteps:=4000000) [hm]
   ·rw[if_neg hg0] at hE
    have hg0':(g==[])=false:=by simpa using hg0
    cases pp with
    | true =>
     replace hE:fstE [0,12]=E:=hE
     refine qaa 2 13 rfl Tryz.func178 rfl (by simp[Tryz.ntmps178]) (by kernel_rfl) (by kernel_rfl) ?_
     simp (maxSteps:=4000000) [-getElem?_pos,hf,hb,hP]
     refine qal [] _ _ (by kernel_rfl) (by rfl) (by rfl) (by simp (maxSteps:=4000000) [];exact rfl) (by simp only[List.length_cons,List.length_nil,Nat.reduceAdd,Nat.reduceSub,List.take_succ_cons,List.take_zero];exact rfl) ?_
     repeat (first|refine qd _ (hs:=by simp (maxSteps:=4000000) [-getElem?_pos,hb,hW,h2,hg0,hg0',hE];exact rfl) (k:=?_)|refine qe _ (k:=?_))
     refine qc ?_
     simp (maxSteps:=4000000) [hm]
    | false =>
     replace hE:fstE [11,12]=E:=hE
     refine qaa 2 13 rfl Tryz.func178 rfl (by simp[Tryz.ntmps178]) (by kernel_rfl) (by kernel_rfl) ?_
     simp (maxSteps:=4000000) [-getElem?_pos,hf,hb,hP]
     refine qal [] _ _ (by kernel_rfl) (by rfl) (by rfl) (by simp (maxSteps:=4000000) [];exact rfl) (by simp only[List.length_cons,List.length_nil,Nat.reduceAdd,Nat.reduceSub,List.take_succ_cons,List.take_zero];exact rfl) ?_
     repeat (first|refine qd _ (hs:=by simp (maxSteps:=4000000) [-getElem?_pos,hb,hW,h2,hg0,hg0',hE];exact rfl) (k:=?_)|refine qe _ (k:=?_))
     refine qc ?_
     simp (maxSteps:=4000000) [hm]
end Go.Proofs.Tryz.Ai
end
section
namespace Go.Proofs.Tryz.Ai
open Go Go.AI Go.Proofs
set_option maxHeartbeats 8000000
set_option maxRecDepth 4000
set_option linter.unusedVariables false
theorem qae {m:Nat} (t:TypeId) (n:Nat) {xs:List AV} (h:lowL m xs):low m (slN t n xs):=by
 cases xs with
 | nil=>simp[slN,low,lowL]
 | cons a l=>exact h
def rqP (p:Ps) (l:List Tok):Except Int Ps:=match wordsB l [119,119] with
 | some [s,v]=>if 200≤p.f.rq.length then .error 14 else stE (fstE [(checkB s v:Int),if p.f.rq.any (isQ s) then 12 else 0]) {p with f:={p.f with rq:=p.f.rq++[(s,v,p.ind)]}}
 | _=>.error 11
theorem qht:StOk 179 rqP:=by
 intro b sh p l σ hp hl hb
 have hbl:=(List.getElem?_eq_some_iff.1 hb).1
 have hg:=fun c=>qbr hbl c
 unfold rqP
 cases hw:wordsB l [119,119] with
 | none =>
  have h1:=form_pan b sh l (by have:=hl.1;omega) [119,119] (by simp) hw σ _ p.line hb rfl
  show pc _ _ _ _
  refine qaa 0 2 rfl Tryz.func179 rfl (by simp[Tryz.ntmps179]) (by kernel_rfl) (by kernel_rfl) ?_
  simp (maxSteps:=4000000) [h1]
 | some ws =>
  obtain⟨s,v,rfl⟩:=qsf hw (by decide)
  have hf:=form_ok b sh l (by have:=hl.1;omega) [119,119] (by simp) _ hw
  have hs:=qp hl hw (s:=s) (by simp)
  have hv:=qp hl hw (s:=v) (by simp)
  have hP:=qc6 s v (by omega) (by omega)
  have hW:=fun b e=>qau b e
  have h2:=fun a b=>qan [a,b] (by simp)
  simp only[List.map_cons,List.map_nil] at hf h2
  obtain⟨pp,hpp⟩:∃e:Int,(checkB s v:Int)=e:=⟨_,rfl⟩
  rw[hpp] at hP
  simp only[hpp,stE]
  have hlq:=hp.lq
  obtain⟨⟨m,g,rq,ex,rp,rt⟩,line,blk,ind,md⟩:=p
  simp only[psC] at hb hlq ⊢
  obtain⟨A2,hA2⟩:∃A,slN 52 2 (ex.map modA)=A:=⟨_,rfl⟩
  rw[hA2] at hb
  have lw2:low σ.length A2:=by rw[← hA2];exact qae _ _ (by simp)
  obtain⟨A3,hA3⟩:∃A,slN 54 4 (rp.map rpF)=A:=⟨_,rfl⟩
  rw[hA3] at hb
  have lw3:low σ.length A3:=by rw[← hA3];exact qae _ _ (by simp)
  obtain⟨A4,hA4⟩:∃A,slN 50 2 (rt.map rtF)=A:=⟨_,rfl⟩
  rw[hA4] at hb
  have lw4:low σ.length A4:=by rw[← hA4];exact qae _ _ (by simp)
  have hO:=fun σ=>qv6 (s,v,ind) σ
  have hOP:=fun σ=>qct s σ
  have hCF:=fun (S:List (List AV))=>qbo rq (by omega) 132 (by decide) [.gp S.length 0 (some (9,1))] (by simp[args,arg,dem]) (isQ s) (S++[[.str s]]) (fun y _=>qb0 s _ _ y _ (by simp))
  obtain⟨t,ht⟩:∃t,rq.any (isQ s)=t:=⟨_,rfl⟩
  simp only[ht] at hCF ⊢
  simp only[rqFx,modAx] at hO
  obtain⟨E,hE⟩:∃E,fstE [pp,if t=true then 12 else 0]=E:=⟨_,rfl⟩
  rw[hE]
  obtain⟨L,hL⟩:∃L,rq.map rqF=L:=⟨_,rfl⟩
  have hLl:L.length=rq.length:=by rw[← hL];simp
  have hall:allCells 3 L:=by rw[← hL];simp
  rw[hL] at hb hCF
  by_cases hr:200≤rq.length
  ·rw[if_pos hr]
   show pc _ _ _ _
   have hm:=fun J=>qa6 b sh rq.length hr (σ++J) _ line (qx hb J) rfl
   have hm0:=qa6 b sh rq.length hr σ _ line hb rfl
   rcases q8 41 3 L with ⟨h0,h1⟩|h1
   ·rw[h0] at hLl;simp at hLl;omega
   ·rw[h1] at hb
    refine qaa 2 7 rfl Tryz.func179 rfl (by simp[Tryz.ntmps179]) (by kernel_rfl) (by kernel_rfl) ?_
    simp (maxSteps:=4000000) [-getElem?_pos,-qb,hf]
    refine qg [5] _ (k:=?_)
    repeat (first|refine qd _ (hs:=by simp (maxSteps:=4000000) [-getElem?_pos,hb];exact rfl) (k:=?_)|refine qe _ (k:=?_))
    refine qc ?_
    simp (maxSteps:=4000000) [-getElem?_pos,hb,hLl,hm,hm0]
  ·rw[if_neg hr]
   have hr':rq.length<200:=by omega
   have hR:=qfc b sh rq.length hr'
   have hx:slN 41 3 ((rq++[(s,v,ind)]).map rqF)=.sl (.ex 41 3) (L++[.agg [.str s,.str v,.bool ind]]):=by rw[List.map_append,hL];exact qbv _ _ _ _
   have lwL:lowL σ.length L:=by rw[← hL];simp
   have lwx:low σ.length (.agg [.str s,.str v,.bool ind]):=by simp[low,lowL]
   have hR0:rq.length=0→∀σ,ev 233 [.gp b 0 sh,.int .i64 0] σ=some (.tup [],σ):=fun h=>by rw[h] at hR;exact hR
   by_cases he:E=0
   ·rw[if_pos he]
    simp only[hA2,hA3,hA4,hx]
    show ev _ _ _=_
    have hm:=qbq b sh
    have hac:allCells 3 [.agg [.str s,.str v,.bool ind]]:=by simp[allCells,AV.cells]
    have hlm:L.length+1≤most:=by unfold most;omega
    have h1m:1≤most:=by unfold most;omega
    have hsa:=fun x J=>qc7 hbl x J
    have hsa2:=fun y x J=>qd2 hbl y x J
    have hg2:∀(c:List AV) (J:List (List AV)),(σ.set b c++J)[b]? = some c:=fun c J=>qx (hg c) J
    subst he
    rcases q8 41 3 L with ⟨h0,h1⟩|h1
    ·subst h0
     replace hR0:=hR0 (by simpa using hLl.symm)
     rw[h1] at hb
     have hga:=fun J=>qx hb J
     refine qf rfl Tryz.func179 rfl (by simp[Tryz.ntmps179]) (by kernel_rfl) (by kernel_rfl) ?_
     simp (maxSteps:=4000000) [-getElem?_pos,-qb,hf]
     refine qg [5] _ (k:=?_)
     repeat (first|refine qd _ (hs:=by simp (maxSteps:=4000000) [-getElem?_pos,hb];exact rfl) (k:=?_)|refine qe _ (k:=?_))
     refine qc ?_
     simp (maxSteps:=4000000) [-getElem?_pos,-qb,hb,hR0]
     refine qg [] _ (k:=?_)
     repeat (first|refine qd _ (hs:=by simp (maxSteps:=4000000) [-getElem?_pos,hb,hW,h2,hE,hm,hO,hP,hOP,hCF];exact rfl) (k:=?_)|refine qe _ (k:=?_))
     refine qc ?_
     simp (maxSteps:=4000000) [-getElem?_pos,-qb]
     refine qg [] _ (k:=?_)
     repeat (first|refine qd _ (hs:=by simp (maxSteps:=4000000) [-getElem?_pos,hb,hga,hg,hsa,hg2,hac,hall,hlm,h1m];exact rfl) (k:=?_)|refine qe _ (k:=?_))
     refine qc ?_
     simp (maxSteps:=4000000) [-getElem?_pos,hsa,hsa2,hg2,hg,take_app,Tryz.results179]
     all_goals rw[qn (qa7 _ _ (by simp[low,lowL,lw2,lw3,lw4,lwL]))]
    ·rw[h1] at hb
     have hga:=fun J=>qx hb J
     refine qf rfl Tryz.func179 rfl (by simp[Tryz.ntmps179]) (by kernel_rfl) (by kernel_rfl) ?_
     simp (maxSteps:=4000000) [-getElem?_pos,-qb,hf]
     refine qg [5] _ (k:=?_)
     repeat (first|refine qd _ (hs:=by simp (maxSteps:=4000000) [-getElem?_pos,hb];exact rfl) (k:=?_)|refine qe _ (k:=?_))
     refine qc ?_
     simp (maxSteps:=4000000) [-getElem?_pos,-qb,hb,hLl,hR]
     refine qg [] _ (k:=?_)
     repeat (first|refine qd _ (hs:=by simp (maxSteps:=4000000) [-getElem?_pos,hb,hW,h2,hE,hm,hO,hP,hOP,hCF];exact rfl) (k:=?_)|refine qe _ (k:=?_))
     refine qc ?_
     simp (maxSteps:=4000000) [-getElem?_pos,-qb]
     refine qg [] _ (k:=?_)
     repeat (first|refine qd _ (hs:=by simp (maxSteps:=4000000) [-getElem?_pos,hb,hga,hg,hsa,hg2,hac,hall,hlm,h1m];exact rfl) (k:=?_)|refine qe _ (k:=?_))
     refine qc ?_
     simp (maxSteps:=4000000) [-getElem?_pos,hsa,hsa2,hg2,hg,take_app,Tryz.results179]
     all_goals rw[qn (qa7 _ _ (by simp[low,lowL,lw2,lw3,lw4,lwL]))]
   ·rw[if_neg he]
    show pc _ _ _ _
    have hm:=fun J=>qab b sh (σ++J) _ line _ (qx hb J) rfl he
    have hm0:=qab b sh σ _ line _ hb rfl he
    rcases q8 41 3 L with ⟨h0,h1⟩|h1
    ·subst h0
     replace hR0:=hR0 (by simpa using hLl.symm)
     rw[h1] at hb
     refine qaa 3 16 rfl Tryz.func179 rfl (by simp[Tryz.ntmps179]) (by kernel_rfl) (by kernel_rfl) ?_
     simp (maxSteps:=4000000) [-getElem?_pos,-qb,hf]
     refine qg [5] _ (k:=?_)
     repeat (first|refine qd _ (hs:=by simp (maxSteps:=4000000) [-getElem?_pos,hb];exact rfl) (k:=?_)|refine qe _ (k:=?_))
     refine qc ?_
     simp (maxSteps:=4000000) [-getElem?_pos,-qb,hb,hR0]
     refine qal [] _ _ (by kernel_rfl) (by rfl) (by rfl) (by simp (maxSteps:=4000000) [];exact rfl) (by simp only[List.length_cons,List.length_nil,Nat.reduceAdd,Nat.reduceSub,List.take_succ_cons,List.take_zero];exact rfl) ?_
     repeat (first|refine qd _ (hs:=by simp (maxSteps:=4000000) [-getElem?_pos,hb,hW,h2,hE,hO,hP,hOP,hCF];exact rfl) (k:=?_)|refine qe _ (k:=?_))
     refine qc ?_
     simp (maxSteps:=4000000) [hm,hm0]
    ·rw[h1] at hb
     refine qaa 3 16 rfl Tryz.func179 rfl (by simp[Tryz.ntmps179]) (by kernel_rfl) (by kernel_rfl) ?_
     simp (maxSteps:=4000000) [-getElem?_pos,-qb,hf]
     refine qg [5] _ (k:=?_)
     repeat (first|refine qd _ (hs:=by simp (maxSteps:=4000000) [-getElem?_pos,hb];exact rfl) (k:=?_)|refine qe _ (k:=?_))
     refine qc ?_
     simp (maxSteps:=4000000) [-getElem?_pos,-qb,hb,hLl,hR]
     refine qal [] _ _ (by kernel_rfl) (by rfl) (by rfl) (by simp (maxSteps:=4000000) [];exact rfl) (by simp only[List.length_cons,List.length_nil,Nat.reduceAdd,Nat.reduceSub,List.take_succ_cons,List.take_zero];exact rfl) ?_
     repeat (first|refine qd _ (hs:=by simp (maxSteps:=4000000) [-getElem?_pos,hb,hW,h2,hE,hO,hP,hOP,hCF];exact rfl) (k:=?_)|refine qe _ (k:=?_))
     refine qc ?_
     simp (maxSteps:=4000000) [hm,hm0]
end Go.Proofs.Tryz.Ai
end
section
namespace Go.Proofs.Tryz.Ai
open Go Go.AI Go.Proofs
set_option maxHeartbeats 8000000
set_option maxRecDepth 4000
set_option linter.unusedVariables false
def modT (m:List UInt8×List UInt8):List UInt8:=if m.2=[] then m.1 else m.1++[32]++m.2
def indT:List UInt8:=[32,47,47,32,105,110,100,105,114,101,99,116]
def rqT (x:Rq):List UInt8:=if x.2.2 then modT (x.1,x.2.1)++indT else modT (x.1,x.2.1)
def arT:List UInt8:=[32,61,62,32]
def rpT (x:Rp):List UInt8:=modT x.1++arT++modT x.2
def rtT (x:Rt):List UInt8:=if x.1=x.2 then x.1 else [91]++x.1++[44,32]++x.2++[93]
def shT (m:List UInt8×List UInt8):Prop:=m.1.length≤2^20∧m.2.length≤2^20
theorem qch {m:List UInt8×List UInt8} (h:shT m):(modT m).length≤2^21+1:=by
 obtain⟨h1,h2⟩:=h
 unfold modT
 split
 ·omega
 ·simp;omega
theorem text_eq (m:List UInt8×List UInt8) (h:shT m) (σ):ev 44 [modA m] σ=some (.str (modT m),σ):=by
 obtain⟨m1,m2⟩:=m
 obtain⟨h1,h2⟩:=h
 simp only at h1 h2
 rw[modAx]
 refine qf rfl Tryz.func44 rfl (by simp[Tryz.ntmps44]) (by kernel_rfl) (by kernel_rfl) ?_
 by_cases hv:m2=[]
 ·have hv':(m2==[])=true:=by simpa using hv
  have hT:modT (m1,m2)=m1:=by unfold modT;rw[if_pos hv]
  simp (maxSteps:=4000000) [hv',hT,Tryz.results44]
 ·have hv':(m2==[])=false:=by simpa using hv
  have hT:modT (m1,m2)=m1++[32]++m2:=by unfold modT;rw[if_neg hv]
  obtain⟨t1,ht1⟩:∃t,m1++[32]=t:=⟨_,rfl⟩
  have l1:t1.length=m1.length+1:=by rw[← ht1];simp
  have b1:m1.length+1≤most:=by unfold most;omega
  have b2:t1.length+m2.length≤most:=by unfold most;omega
  rw[ht1] at hT
  simp (maxSteps:=4000000) [-List.append_assoc,hv',b1,ht1,b2,hT,Tryz.results44]
theorem fmt1_eq (x:Rq) (h:shT (x.1,x.2.1)) (σ):ev 43 [rqF x] σ=some (.str (rqT x),σ):=by
 have hof:=qv6 x
 have ht:=text_eq (x.1,x.2.1) h
 have hl:=qch h
 obtain⟨x1,x2,x3⟩:=x
 simp only at ht hl
 have hT:rqT (x1,x2,x3)=if x3 then modT (x1,x2)++indT else modT (x1,x2):=rfl
 obtain⟨t,htt⟩:∃t,modT (x1,x2)=t:=⟨_,rfl⟩
 rw[htt] at ht hl hT
 have b1:t.length+12≤most:=by unfold most;omega
 rw[rqFx] at hof ⊢
 rw[modAx] at ht hof
 refine qf rfl Tryz.func43 rfl (by simp[Tryz.ntmps43]) (by kernel_rfl) (by kernel_rfl) ?_
 cases x3 with
 | true =>
  rw[if_pos rfl] at hT
  obtain⟨u,hu⟩:∃u,t++indT=u:=⟨_,rfl⟩
  rw[hu] at hT
  unfold indT at hu
  simp (maxSteps:=4000000) [hof,ht,b1,hu,hT,Tryz.results43]
 | false =>
  rw[if_neg (by simp)] at hT
  simp (maxSteps:=4000000) [hof,ht,hT,Tryz.results43]
theorem fmt2_eq (x:Rp) (h1:shT x.1) (h2:shT x.2) (σ):ev 48 [rpF x] σ=some (.str (rpT x),σ):=by
 have ht1:=text_eq x.1 h1
 have ht2:=text_eq x.2 h2
 have hl1:=qch h1
 have hl2:=qch h2
 have hT:rpT x=modT x.1++arT++modT x.2:=rfl
 obtain⟨⟨x1,x2⟩,x3,x4⟩:=x
 simp only at ht1 ht2 hl1 hl2 hT
 obtain⟨a,ha⟩:∃t,modT (x1,x2)=t:=⟨_,rfl⟩
 obtain⟨b,hb⟩:∃t,modT (x3,x4)=t:=⟨_,rfl⟩
 rw[ha] at ht1 hl1 hT
 rw[hb] at ht2 hl2 hT
 obtain⟨u,hu⟩:∃u,a++arT=u:=⟨_,rfl⟩
 have hul:u.length=a.length+4:=by rw[← hu];simp[arT]
 rw[hu] at hT
 unfold arT at hu
 have b1:a.length+4≤most:=by unfold most;omega
 have b2:u.length+b.length≤most:=by unfold most;omega
 rw[rpFx]
 rw[modAx] at ht1 ht2
 refine qf rfl Tryz.func48 rfl (by simp[Tryz.ntmps48]) (by kernel_rfl) (by kernel_rfl) ?_
 simp (maxSteps:=4000000) [-qb]
 refine qg [] _ (k:=?_)
 repeat (first|refine qd _ (hs:=by simp (maxSteps:=4000000) [-List.append_assoc,ht1,ht2,b1,b2,hu];exact rfl) (k:=?_)|refine qe _ (k:=?_))
 refine qc ?_
 simp (maxSteps:=4000000) [-List.append_assoc,hT,hu,Tryz.results48]
theorem fmt3_eq (x:Rt) (h:shT x) (σ):ev 50 [rtF x] σ=some (.str (rtT x),σ):=by
 obtain⟨x1,x2⟩:=x
 obtain⟨h1,h2⟩:=h
 simp only at h1 h2
 have hT:rtT (x1,x2)=if x1=x2 then x1 else [91]++x1++[44,32]++x2++[93]:=rfl
 rw[rtFx]
 refine qf rfl Tryz.func50 rfl (by simp[Tryz.ntmps50]) (by kernel_rfl) (by kernel_rfl) ?_
 by_cases he:x1=x2
 ·rw[if_pos he] at hT
  have he':(x1==x2)=true:=by simpa using he
  simp (maxSteps:=4000000) [-beq_iff_eq,he',hT,Tryz.results50]
 ·rw[if_neg he] at hT
  have he':(x1==x2)=false:=by simpa using he
  obtain⟨t1,ht1⟩:∃t,[91]++x1=t:=⟨_,rfl⟩
  have l1:t1.length=x1.length+1:=by rw[← ht1];simp
  have ht1':91::x1=t1:=ht1
  obtain⟨t2,ht2⟩:∃t,t1++[44,32]=t:=⟨_,rfl⟩
  have l2:t2.length=x1.length+3:=by rw[← ht2];simp[l1]
  obtain⟨t3,ht3⟩:∃t,t2++x2=t:=⟨_,rfl⟩
  have l3:t3.length=x1.length+3+x2.length:=by rw[← ht3];simp[l2]
  obtain⟨t4,ht4⟩:∃t,t3++[93]=t:=⟨_,rfl⟩
  rw[ht1,ht2,ht3,ht4] at hT
  have b1:x1.length+1≤most:=by unfold most;omega
  have b1':1+x1.length≤most:=by unfold most;omega
  have b2:t1.length+2≤most:=by unfold most;omega
  have b3:t2.length+x2.length≤most:=by unfold most;omega
  have b4:t3.length+1≤most:=by unfold most;omega
  simp (maxSteps:=4000000) [-List.append_assoc,-beq_eq_false_iff_ne,he',b1,b1',b2,b3,b4,ht1,ht1',ht2,ht3,ht4,hT,Tryz.results50]
def rowT (s:List UInt8):List UInt8:=[9]++s++[10]
def blkT (w:List UInt8) (ls:List (List UInt8)):List UInt8:=if ls=[] then [] else [10]++w++[32,40,10]++ls.flatMap rowT++[41,10]
theorem flat_row:∀{ls:List (List UInt8)},(∀s∈ls,s.length≤2^23)→(ls.flatMap rowT).length≤ls.length*2^24
 | [],_=>by simp
 | s::r,h=>by
  have h1:=h s (List.mem_cons_self ..)
  have h2:=flat_row (ls:=r) fun y hy=>h y (List.mem_cons_of_mem _ hy)
  rw[List.flatMap_cons,List.length_append,List.length_cons]
  have:(rowT s).length=s.length+2:=by simp[rowT]
  omega
def blkI {α:Type} (L:List α) (line:α→List UInt8) (a:List UInt8) (i:Nat) (t:List UInt8):Prop:=i≤L.length∧t=a++((L.map line).take i).flatMap rowT
theorem qsz (b:Nat) (o:Option (List UInt8)) (σ:List (List AV)) (hb:σ[b]? = some (bc b o)) (w:List UInt8) (hw:w.length≤100) (L:List (Rq)) (hL:L.length≤200) (ho:(txt o).length≤2^36) (g:FuncId) (hg:g<100000) (line:Rq→List UInt8)
  (h:∀x∈L,(line x).length≤2^23∧∀σ,ev g [rqF x] σ=some (.str (line x),σ)) :
  ev 42 [.gp b 0 (some (SB,2)),.str w,.sl .sh (L.map rqF),.fn g []] σ=some (.tup [],σ.set b (bc b (if L=[] then o else some (txt o++blkT w (L.map line))))):=by
 have hbl:=(List.getElem?_eq_some_iff.1 hb).1
 refine qf rfl Tryz.func42 rfl (by simp[Tryz.ntmps42]) (by kernel_rfl) (by kernel_rfl) ?_
 by_cases h0:L=[]
 ·subst h0
  have hs:σ.set b (bc b o)=σ:=List.ext_getElem? fun i=>by
   rw[List.getElem?_set]
   split
   ·rename_i e;subst e;first|exact hb.symm|simp[hbl,hb]
   ·rfl
  rw[if_pos rfl,hs]
  simp (maxSteps:=4000000) [Tryz.results42]
 ·have hLl:0<L.length:=List.length_pos_iff.2 h0
  have hLn:¬L.length=0:=by omega
  rw[if_neg h0]
  obtain⟨t0,ht0⟩:∃t,[10]++w=t:=⟨_,rfl⟩
  have ht0':10::w=t0:=ht0
  have l0:t0.length=w.length+1:=by rw[← ht0];simp
  obtain⟨t1,ht1⟩:∃t,t0++[32,40,10]=t:=⟨_,rfl⟩
  have l1:t1.length=w.length+4:=by rw[← ht1];simp[l0]
  have c0:1+w.length≤most:=by unfold most;omega
  have c0':w.length+1≤most:=by unfold most;omega
  have c1:t0.length+3≤most:=by unfold most;omega
  have hW1:=q7 b σ o t1 (by unfold most;omega) hb
  obtain⟨a,ha⟩:∃a,txt o++t1=a:=⟨_,rfl⟩
  have hal:a.length≤2^37:=by rw[← ha];simp;omega
  rw[ha] at hW1
  have hfin:txt o++blkT w (L.map line)=a++(L.map line).flatMap rowT++[41,10]:=by
   unfold blkT
   rw[if_neg (by simpa using h0),← ha,← ht1,← ht0];simp
  have hall:allCells 3 (L.map rqF):=by simp
  simp only[SB] at hW1 ⊢
  simp (maxSteps:=4000000) [-List.append_assoc,-Prod.exists,-Prod.forall,hLn,h0,c0,c0',c1,ht0,ht0',ht1,hW1]
  refine ql (I:=fun p:Nat×List UInt8=>⟨[(0,.gp b 0 (some (101,2))),(3,.fn g []),(18,.sl .sh (L.map rqF)),(19,.int .i64 L.length),(20,.int .i64 p.1)],[],σ.set b (bc b (some p.2))⟩)
   (Pr:=fun p=>blkI L line a p.1 p.2) (μ:=fun p=>L.length-p.1) (a:=(0,a)) (by simp) ⟨by simp,by simp⟩ ?_
  rintro⟨i,t⟩ ⟨hi,ht⟩
  simp only at hi ht ⊢
  have w1:IntKind.i64.wrap ((i:Int)+1)=(i:Int)+1:=qh (by omega)
  have htl:t.length≤2^38:=by
   have:=flat_row (ls:=(L.map line).take i) fun s hs=>by
    obtain⟨x,hx,rfl⟩:=List.mem_map.1 (List.mem_of_mem_take hs)
    exact (h x hx).1
   have h2:((L.map line).take i).length≤200:=by simp;omega
   have h3:=Nat.le_trans this (Nat.mul_le_mul_right _ h2)
   rw[ht,List.length_append];omega
  have hbt:(σ.set b (bc b (some t)))[b]? = some (bc b (some t)):=qbr hbl _
  by_cases hc:i<L.length
  ·obtain⟨x,hx⟩:∃x,L[i]? = some x:=⟨_,List.getElem?_eq_getElem hc⟩
   obtain⟨hll,hE⟩:=h x (List.mem_of_getElem? hx)
   have hnx:blkI L line a (i+1) (t++rowT (line x)):=⟨by omega,by
    rw[ht,List.take_add_one,List.getElem?_map,hx,List.flatMap_append];simp⟩
   obtain⟨s,hs⟩:∃s,line x=s:=⟨_,rfl⟩
   rw[hs] at hll hE hnx
   clear hs
   obtain⟨x1,x2,x3⟩:=x
   rw[rqFx] at hE
   obtain⟨u0,hu0⟩:∃u,[9]++s=u:=⟨_,rfl⟩
   have hu0':9::s=u0:=hu0
   have k0:u0.length=s.length+1:=by rw[← hu0];simp
   obtain⟨u1,hu1⟩:∃u,u0++[10]=u:=⟨_,rfl⟩
   have k1:u1.length=s.length+2:=by rw[← hu1];simp[k0]
   have d0:1+s.length≤most:=by unfold most;omega
   have d0':s.length+1≤most:=by unfold most;omega
   have d1:u0.length+1≤most:=by unfold most;omega
   have hrw:rowT s=u1:=by unfold rowT;rw[hu0,hu1]
   rw[hrw] at hnx
   have hW:=q7 b (σ.set b (bc b (some t))) (some t) u1 (by simp only[txt_some];unfold most;omega) hbt
   simp only[txt_some,List.set_set,SB] at hW
   obtain⟨t',ht'⟩:∃t',t++u1=t':=⟨_,rfl⟩
   rw[ht'] at hW hnx
   simp (maxSteps:=4000000) [-getElem?_pos,-List.append_assoc,-Prod.exists,-Prod.forall,hc,hx,rqFx,hg,hE,d0,d0',d1,hu0,hu0',hu1,hW,w1]
   exact⟨(i+1,t'),hnx,by simp;omega,by simp⟩
  ·have hie:(L.map line).take i=L.map line:=List.take_of_length_le (by simp;omega)
   rw[hie] at ht
   have hW:=q7 b (σ.set b (bc b (some t))) (some t) [41,10] (by simp only[txt_some];unfold most;simp;omega) hbt
   simp only[txt_some,List.set_set,SB] at hW
   rw[hfin,← ht]
   obtain⟨t',ht'⟩:∃t',t++[41,10]=t':=⟨_,rfl⟩
   rw[ht'] at hW ⊢
   simp (maxSteps:=4000000) [-List.append_assoc,hc,hW,Tryz.results42]
   rw[qn (qfy (by simp only[qjf];exact .inr hbl))]
theorem qs0 (b:Nat) (o:Option (List UInt8)) (σ:List (List AV)) (hb:σ[b]? = some (bc b o)) (w:List UInt8) (hw:w.length≤100) (L:List (List UInt8×List UInt8)) (hL:L.length≤200) (ho:(txt o).length≤2^36) (g:FuncId) (hg:g<100000) (line:List UInt8×List UInt8→List UInt8)
  (h:∀x∈L,(line x).length≤2^23∧∀σ,ev g [modA x] σ=some (.str (line x),σ)) :
  ev 46 [.gp b 0 (some (SB,2)),.str w,.sl .sh (L.map modA),.fn g []] σ=some (.tup [],σ.set b (bc b (if L=[] then o else some (txt o++blkT w (L.map line))))):=by
 have hbl:=(List.getElem?_eq_some_iff.1 hb).1
 refine qf rfl Tryz.func46 rfl (by simp[Tryz.ntmps46]) (by kernel_rfl) (by kernel_rfl) ?_
 by_cases h0:L=[]
 ·subst h0
  have hs:σ.set b (bc b o)=σ:=List.ext_getElem? fun i=>by
   rw[List.getElem?_set]
   split
   ·rename_i e;subst e;first|exact hb.symm|simp[hbl,hb]
   ·rfl
  rw[if_pos rfl,hs]
  simp (maxSteps:=4000000) [Tryz.results46]
 ·have hLl:0<L.length:=List.length_pos_iff.2 h0
  have hLn:¬L.length=0:=by omega
  rw[if_neg h0]
  obtain⟨t0,ht0⟩:∃t,[10]++w=t:=⟨_,rfl⟩
  have ht0':10::w=t0:=ht0
  have l0:t0.length=w.length+1:=by rw[← ht0];simp
  obtain⟨t1,ht1⟩:∃t,t0++[32,40,10]=t:=⟨_,rfl⟩
  have l1:t1.length=w.length+4:=by rw[← ht1];simp[l0]
  have c0:1+w.length≤most:=by unfold most;omega
  have c0':w.length+1≤most:=by unfold most;omega
  have c1:t0.length+3≤most:=by unfold most;omega
  have hW1:=q7 b σ o t1 (by unfold most;omega) hb
  obtain⟨a,ha⟩:∃a,txt o++t1=a:=⟨_,rfl⟩
  have hal:a.length≤2^37:=by rw[← ha];simp;omega
  rw[ha] at hW1
  have hfin:txt o++blkT w (L.map line)=a++(L.map line).flatMap rowT++[41,10]:=by
   unfold blkT
   rw[if_neg (by simpa using h0),← ha,← ht1,← ht0];simp
  have hall:allCells 2 (L.map modA):=by simp
  simp only[SB] at hW1 ⊢
  simp (maxSteps:=4000000) [-List.append_assoc,-Prod.exists,-Prod.forall,hLn,h0,c0,c0',c1,ht0,ht0',ht1,hW1]
  refine ql (I:=fun p:Nat×List UInt8=>⟨[(0,.gp b 0 (some (101,2))),(3,.fn g []),(18,.sl .sh (L.map modA)),(19,.int .i64 L.length),(20,.int .i64 p.1)],[],σ.set b (bc b (some p.2))⟩)
   (Pr:=fun p=>blkI L line a p.1 p.2) (μ:=fun p=>L.length-p.1) (a:=(0,a)) (by simp) ⟨by simp,by simp⟩ ?_
  rintro⟨i,t⟩ ⟨hi,ht⟩
  simp only at hi ht ⊢
  have w1:IntKind.i64.wrap ((i:Int)+1)=(i:Int)+1:=qh (by omega)
  have htl:t.length≤2^38:=by
   have:=flat_row (ls:=(L.map line).take i) fun s hs=>by
    obtain⟨x,hx,rfl⟩:=List.mem_map.1 (List.mem_of_mem_take hs)
    exact (h x hx).1
   have h2:((L.map line).take i).length≤200:=by simp;omega
   have h3:=Nat.le_trans this (Nat.mul_le_mul_right _ h2)
   rw[ht,List.length_append];omega
  have hbt:(σ.set b (bc b (some t)))[b]? = some (bc b (some t)):=qbr hbl _
  by_cases hc:i<L.length
  ·obtain⟨x,hx⟩:∃x,L[i]? = some x:=⟨_,List.getElem?_eq_getElem hc⟩
   obtain⟨hll,hE⟩:=h x (List.mem_of_getElem? hx)
   have hnx:blkI L line a (i+1) (t++rowT (line x)):=⟨by omega,by
    rw[ht,List.take_add_one,List.getElem?_map,hx,List.flatMap_append];simp⟩
   obtain⟨s,hs⟩:∃s,line x=s:=⟨_,rfl⟩
   rw[hs] at hll hE hnx
   clear hs
   obtain⟨x1,x2⟩:=x
   rw[modAx] at hE
   obtain⟨u0,hu0⟩:∃u,[9]++s=u:=⟨_,rfl⟩
   have hu0':9::s=u0:=hu0
   have k0:u0.length=s.length+1:=by rw[← hu0];simp
   obtain⟨u1,hu1⟩:∃u,u0++[10]=u:=⟨_,rfl⟩
   have k1:u1.length=s.length+2:=by rw[← hu1];simp[k0]
   have d0:1+s.length≤most:=by unfold most;omega
   have d0':s.length+1≤most:=by unfold most;omega
   have d1:u0.length+1≤most:=by unfold most;omega
   have hrw:rowT s=u1:=by unfold rowT;rw[hu0,hu1]
   rw[hrw] at hnx
   have hW:=q7 b (σ.set b (bc b (some t))) (some t) u1 (by simp only[txt_some];unfold most;omega) hbt
   simp only[txt_some,List.set_set,SB] at hW
   obtain⟨t',ht'⟩:∃t',t++u1=t':=⟨_,rfl⟩
   rw[ht'] at hW hnx
   simp (maxSteps:=4000000) [-getElem?_pos,-List.append_assoc,-Prod.exists,-Prod.forall,hc,hx,modAx,hg,hE,d0,d0',d1,hu0,hu0',hu1,hW,w1]
   exact⟨(i+1,t'),hnx,by simp;omega,by simp⟩
  ·have hie:(L.map line).take i=L.map line:=List.take_of_length_le (by simp;omega)
   rw[hie] at ht
   have hW:=q7 b (σ.set b (bc b (some t))) (some t) [41,10] (by simp only[txt_some];unfold most;simp;omega) hbt
   simp only[txt_some,List.set_set,SB] at hW
   rw[hfin,← ht]
   obtain⟨t',ht'⟩:∃t',t++[41,10]=t':=⟨_,rfl⟩
   rw[ht'] at hW ⊢
   simp (maxSteps:=4000000) [-List.append_assoc,hc,hW,Tryz.results46]
   rw[qn (qfy (by simp only[qjf];exact .inr hbl))]
theorem qs1 (b:Nat) (o:Option (List UInt8)) (σ:List (List AV)) (hb:σ[b]? = some (bc b o)) (w:List UInt8) (hw:w.length≤100) (L:List (Rp)) (hL:L.length≤200) (ho:(txt o).length≤2^36) (g:FuncId) (hg:g<100000) (line:Rp→List UInt8)
  (h:∀x∈L,(line x).length≤2^23∧∀σ,ev g [rpF x] σ=some (.str (line x),σ)) :
  ev 47 [.gp b 0 (some (SB,2)),.str w,.sl .sh (L.map rpF),.fn g []] σ=some (.tup [],σ.set b (bc b (if L=[] then o else some (txt o++blkT w (L.map line))))):=by
 have hbl:=(List.getElem?_eq_some_iff.1 hb).1
 refine qf rfl Tryz.func47 rfl (by simp[Tryz.ntmps47]) (by kernel_rfl) (by kernel_rfl) ?_
 by_cases h0:L=[]
 ·subst h0
  have hs:σ.set b (bc b o)=σ:=List.ext_getElem? fun i=>by
   rw[List.getElem?_set]
   split
   ·rename_i e;subst e;first|exact hb.symm|simp[hbl,hb]
   ·rfl
  rw[if_pos rfl,hs]
  simp (maxSteps:=4000000) [Tryz.results47]
 ·have hLl:0<L.length:=List.length_pos_iff.2 h0
  have hLn:¬L.length=0:=by omega
  rw[if_neg h0]
  obtain⟨t0,ht0⟩:∃t,[10]++w=t:=⟨_,rfl⟩
  have ht0':10::w=t0:=ht0
  have l0:t0.length=w.length+1:=by rw[← ht0];simp
  obtain⟨t1,ht1⟩:∃t,t0++[32,40,10]=t:=⟨_,rfl⟩
  have l1:t1.length=w.length+4:=by rw[← ht1];simp[l0]
  have c0:1+w.length≤most:=by unfold most;omega
  have c0':w.length+1≤most:=by unfold most;omega
  have c1:t0.length+3≤most:=by unfold most;omega
  have hW1:=q7 b σ o t1 (by unfold most;omega) hb
  obtain⟨a,ha⟩:∃a,txt o++t1=a:=⟨_,rfl⟩
  have hal:a.length≤2^37:=by rw[← ha];simp;omega
  rw[ha] at hW1
  have hfin:txt o++blkT w (L.map line)=a++(L.map line).flatMap rowT++[41,10]:=by
   unfold blkT
   rw[if_neg (by simpa using h0),← ha,← ht1,← ht0];simp
  have hall:allCells 4 (L.map rpF):=by simp
  simp only[SB] at hW1 ⊢
  simp (maxSteps:=4000000) [-List.append_assoc,-Prod.exists,-Prod.forall,hLn,h0,c0,c0',c1,ht0,ht0',ht1,hW1]
  refine ql (I:=fun p:Nat×List UInt8=>⟨[(0,.gp b 0 (some (101,2))),(3,.fn g []),(18,.sl .sh (L.map rpF)),(19,.int .i64 L.length),(20,.int .i64 p.1)],[],σ.set b (bc b (some p.2))⟩)
   (Pr:=fun p=>blkI L line a p.1 p.2) (μ:=fun p=>L.length-p.1) (a:=(0,a)) (by simp) ⟨by simp,by simp⟩ ?_
  rintro⟨i,t⟩ ⟨hi,ht⟩
  simp only at hi ht ⊢
  have w1:IntKind.i64.wrap ((i:Int)+1)=(i:Int)+1:=qh (by omega)
  have htl:t.length≤2^38:=by
   have:=flat_row (ls:=(L.map line).take i) fun s hs=>by
    obtain⟨x,hx,rfl⟩:=List.mem_map.1 (List.mem_of_mem_take hs)
    exact (h x hx).1
   have h2:((L.map line).take i).length≤200:=by simp;omega
   have h3:=Nat.le_trans this (Nat.mul_le_mul_right _ h2)
   rw[ht,List.length_append];omega
  have hbt:(σ.set b (bc b (some t)))[b]? = some (bc b (some t)):=qbr hbl _
  by_cases hc:i<L.length
  ·obtain⟨x,hx⟩:∃x,L[i]? = some x:=⟨_,List.getElem?_eq_getElem hc⟩
   obtain⟨hll,hE⟩:=h x (List.mem_of_getElem? hx)
   have hnx:blkI L line a (i+1) (t++rowT (line x)):=⟨by omega,by
    rw[ht,List.take_add_one,List.getElem?_map,hx,List.flatMap_append];simp⟩
   obtain⟨s,hs⟩:∃s,line x=s:=⟨_,rfl⟩
   rw[hs] at hll hE hnx
   clear hs
   obtain⟨⟨x1,x2⟩,x3,x4⟩:=x
   rw[rpFx] at hE
   obtain⟨u0,hu0⟩:∃u,[9]++s=u:=⟨_,rfl⟩
   have hu0':9::s=u0:=hu0
   have k0:u0.length=s.length+1:=by rw[← hu0];simp
   obtain⟨u1,hu1⟩:∃u,u0++[10]=u:=⟨_,rfl⟩
   have k1:u1.length=s.length+2:=by rw[← hu1];simp[k0]
   have d0:1+s.length≤most:=by unfold most;omega
   have d0':s.length+1≤most:=by unfold most;omega
   have d1:u0.length+1≤most:=by unfold most;omega
   have hrw:rowT s=u1:=by unfold rowT;rw[hu0,hu1]
   rw[hrw] at hnx
   have hW:=q7 b (σ.set b (bc b (some t))) (some t) u1 (by simp only[txt_some];unfold most;omega) hbt
   simp only[txt_some,List.set_set,SB] at hW
   obtain⟨t',ht'⟩:∃t',t++u1=t':=⟨_,rfl⟩
   rw[ht'] at hW hnx
   simp (maxSteps:=4000000) [-getElem?_pos,-List.append_assoc,-Prod.exists,-Prod.forall,hc,hx,rpFx,hg,hE,d0,d0',d1,hu0,hu0',hu1,hW,w1]
   exact⟨(i+1,t'),hnx,by simp;omega,by simp⟩
  ·have hie:(L.map line).take i=L.map line:=List.take_of_length_le (by simp;omega)
   rw[hie] at ht
   have hW:=q7 b (σ.set b (bc b (some t))) (some t) [41,10] (by simp only[txt_some];unfold most;simp;omega) hbt
   simp only[txt_some,List.set_set,SB] at hW
   rw[hfin,← ht]
   obtain⟨t',ht'⟩:∃t',t++[41,10]=t':=⟨_,rfl⟩
   rw[ht'] at hW ⊢
   simp (maxSteps:=4000000) [-List.append_assoc,hc,hW,Tryz.results47]
   rw[qn (qfy (by simp only[qjf];exact .inr hbl))]
theorem qs2 (b:Nat) (o:Option (List UInt8)) (σ:List (List AV)) (hb:σ[b]? = some (bc b o)) (w:List UInt8) (hw:w.length≤100) (L:List (Rt)) (hL:L.length≤200) (ho:(txt o).length≤2^36) (g:FuncId) (hg:g<100000) (line:Rt→List UInt8)
  (h:∀x∈L,(line x).length≤2^23∧∀σ,ev g [rtF x] σ=some (.str (line x),σ)) :
  ev 49 [.gp b 0 (some (SB,2)),.str w,.sl .sh (L.map rtF),.fn g []] σ=some (.tup [],σ.set b (bc b (if L=[] then o else some (txt o++blkT w (L.map line))))):=by
 have hbl:=(List.getElem?_eq_some_iff.1 hb).1
 refine qf rfl Tryz.func49 rfl (by simp[Tryz.ntmps49]) (by kernel_rfl) (by kernel_rfl) ?_
 by_cases h0:L=[]
 ·subst h0
  have hs:σ.set b (bc b o)=σ:=List.ext_getElem? fun i=>by
   rw[List.getElem?_set]
   split
   ·rename_i e;subst e;first|exact hb.symm|simp[hbl,hb]
   ·rfl
  rw[if_pos rfl,hs]
  simp (maxSteps:=4000000) [Tryz.results49]
 ·have hLl:0<L.length:=List.length_pos_iff.2 h0
  have hLn:¬L.length=0:=by omega
  rw[if_neg h0]
  obtain⟨t0,ht0⟩:∃t,[10]++w=t:=⟨_,rfl⟩
  have ht0':10::w=t0:=ht0
  have l0:t0.length=w.length+1:=by rw[← ht0];simp
  obtain⟨t1,ht1⟩:∃t,t0++[32,40,10]=t:=⟨_,rfl⟩
  have l1:t1.length=w.length+4:=by rw[← ht1];simp[l0]
  have c0:1+w.length≤most:=by unfold most;omega
  have c0':w.length+1≤most:=by unfold most;omega
  have c1:t0.length+3≤most:=by unfold most;omega
  have hW1:=q7 b σ o t1 (by unfold most;omega) hb
  obtain⟨a,ha⟩:∃a,txt o++t1=a:=⟨_,rfl⟩
  have hal:a.length≤2^37:=by rw[← ha];simp;omega
  rw[ha] at hW1
  have hfin:txt o++blkT w (L.map line)=a++(L.map line).flatMap rowT++[41,10]:=by
   unfold blkT
   rw[if_neg (by simpa using h0),← ha,← ht1,← ht0];simp
  have hall:allCells 2 (L.map rtF):=by simp
  simp only[SB] at hW1 ⊢
  simp (maxSteps:=4000000) [-List.append_assoc,-Prod.exists,-Prod.forall,hLn,h0,c0,c0',c1,ht0,ht0',ht1,hW1]
  refine ql (I:=fun p:Nat×List UInt8=>⟨[(0,.gp b 0 (some (101,2))),(3,.fn g []),(18,.sl .sh (L.map rtF)),(19,.int .i64 L.length),(20,.int .i64 p.1)],[],σ.set b (bc b (some p.2))⟩)
   (Pr:=fun p=>blkI L line a p.1 p.2) (μ:=fun p=>L.length-p.1) (a:=(0,a)) (by simp) ⟨by simp,by simp⟩ ?_
  rintro⟨i,t⟩ ⟨hi,ht⟩
  simp only at hi ht ⊢
  have w1:IntKind.i64.wrap ((i:Int)+1)=(i:Int)+1:=qh (by omega)
  have htl:t.length≤2^38:=by
   have:=flat_row (ls:=(L.map line).take i) fun s hs=>by
    obtain⟨x,hx,rfl⟩:=List.mem_map.1 (List.mem_of_mem_take hs)
    exact (h x hx).1
   have h2:((L.map line).take i).length≤200:=by simp;omega
   have h3:=Nat.le_trans this (Nat.mul_le_mul_right _ h2)
   rw[ht,List.length_append];omega
  have hbt:(σ.set b (bc b (some t)))[b]? = some (bc b (some t)):=qbr hbl _
  by_cases hc:i<L.length
  ·obtain⟨x,hx⟩:∃x,L[i]? = some x:=⟨_,List.getElem?_eq_getElem hc⟩
   obtain⟨hll,hE⟩:=h x (List.mem_of_getElem? hx)
   have hnx:blkI L line a (i+1) (t++rowT (line x)):=⟨by omega,by
    rw[ht,List.take_add_one,List.getElem?_map,hx,List.flatMap_append];simp⟩
   obtain⟨s,hs⟩:∃s,line x=s:=⟨_,rfl⟩
   rw[hs] at hll hE hnx
   clear hs
   obtain⟨x1,x2⟩:=x
   rw[rtFx] at hE
   obtain⟨u0,hu0⟩:∃u,[9]++s=u:=⟨_,rfl⟩
   have hu0':9::s=u0:=hu0
   have k0:u0.length=s.length+1:=by rw[← hu0];simp
   obtain⟨u1,hu1⟩:∃u,u0++[10]=u:=⟨_,rfl⟩
   have k1:u1.length=s.length+2:=by rw[← hu1];simp[k0]
   have d0:1+s.length≤most:=by unfold most;omega
   have d0':s.length+1≤most:=by unfold most;omega
   have d1:u0.length+1≤most:=by unfold most;omega
   have hrw:rowT s=u1:=by unfold rowT;rw[hu0,hu1]
   rw[hrw] at hnx
   have hW:=q7 b (σ.set b (bc b (some t))) (some t) u1 (by simp only[txt_some];unfold most;omega) hbt
   simp only[txt_some,List.set_set,SB] at hW
   obtain⟨t',ht'⟩:∃t',t++u1=t':=⟨_,rfl⟩
   rw[ht'] at hW hnx
   simp (maxSteps:=4000000) [-getElem?_pos,-List.append_assoc,-Prod.exists,-Prod.forall,hc,hx,rtFx,hg,hE,d0,d0',d1,hu0,hu0',hu1,hW,w1]
   exact⟨(i+1,t'),hnx,by simp;omega,by simp⟩
  ·have hie:(L.map line).take i=L.map line:=List.take_of_length_le (by simp;omega)
   rw[hie] at ht
   have hW:=q7 b (σ.set b (bc b (some t))) (some t) [41,10] (by simp only[txt_some];unfold most;simp;omega) hbt
   simp only[txt_some,List.set_set,SB] at hW
   rw[hfin,← ht]
   obtain⟨t',ht'⟩:∃t',t++[41,10]=t':=⟨_,rfl⟩
   rw[ht'] at hW ⊢
   simp (maxSteps:=4000000) [-List.append_assoc,hc,hW,Tryz.results49]
   rw[qn (qfy (by simp only[qjf];exact .inr hbl))]
end Go.Proofs.Tryz.Ai
end
