/- Part 29 of a proof: Go functions are evaluated on abstract values; no conditions beyond those of each theorem. -/
import Derived.Test.YtjkkcelnfokplaaGreatDoorFi28
set_option linter.all false
set_option maxHeartbeats 16000000
set_option maxRecDepth 4000
section
namespace Go.AI
section
variable {P:Program} {hh:Hint} {C:Oracle} {CP:Panics}
theorem qfx {l l':List Oper} {st:St} {r:AV} (ds:List Nat) (o:Oper) (st0:St) (h1:(List.range (l.length-1)).all (fun j=>befL l j (l.length-1))=true) (h2:l[l.length-1]? = some o) (h3:allocDs l=ds)
  (h4:startD ds st=st0) (h5:l.take (l.length-1)=l') (k:PostD (runD P hh C ds l l' st0) fun st1=>wantedA l o.guard st1=some true∧okAll ds st1.t (wrT hh o)=true∧panOp hh CP o st1 r):panRD P hh C CP l st r:=by
 refine⟨h1,?_⟩
 rw[h2,qbu,h3,h4,h5]
 exact k
end
end Go.AI
namespace Go.Proofs.Tryz.Ai
open Go Go.AI Go.Proofs
def slN (t:TypeId) (n:Nat) (xs:List AV):AV:=match xs with
 | []=>.sl .nil []
 | x::r=>.sl (.ex t n) (x::r)
theorem qfy (t:TypeId) (n:Nat) (xs:List AV) (x:AV):slN t n (xs++[x])=.sl (.ex t n) (xs++[x]):=by
 cases xs<;>rfl
theorem qbz (t:TypeId) (n:Nat) (xs:List AV):(xs=[]∧slN t n xs=.sl .nil [])∨slN t n xs=.sl (.ex t n) xs:=by
 cases xs with
 | nil=>exact .inl ⟨rfl,rfl⟩
 | cons x r=>exact .inr rfl
structure Ps where
 f:Mf
 line:Int
 blk:List UInt8
 ind:Bool
 md:Bool
def psC (p:Ps):List AV:=[.str p.f.m,.str p.f.g,slN 41 3 (p.f.rq.map rqF),slN 52 2 (p.f.ex.map modA),slN 54 4 (p.f.rp.map rpF),slN 50 2 (p.f.rt.map rtF),.int .i64 p.line,.str p.blk,.bool p.ind,.bool p.md]
def TkB (l:List Tok):Prop:=l.length≤2^28∧∀t∈l,t.2.length≤2^28
def stE (e:Int) (q:Ps):Except Int Ps:=if e=0 then .ok q else .error e
def StOk (g:FuncId) (R:Ps→List Tok→Except Int Ps):Prop :=
 ∀(b:Nat) (sh:Option (TypeId×Nat)) (p:Ps) (l:List Tok) (σ:List (List AV)),MfB p.f→TkB l→σ[b]? = some (psC p) →
  match R p l with
  | .ok q=>ev g [.gp b 0 sh,.sl .sh (l.map tkF)] σ=some (.tup [],σ.set b (psC q))
  | .error e=>pc g [.gp b 0 sh,.sl .sh (l.map tkF)] σ (fltV p.line e)
theorem textsB_len (l:List Tok):(textsB l).length=(l.map (·.1)).countP (·==119):=by
 unfold textsB
 rw[List.length_map,List.countP_map,List.countP_eq_length_filter];rfl
theorem qig {l:List Tok} {k:List UInt8} {ws:List (List UInt8)} (h:wordsB l k=some ws):ws.length=k.countP (·==119):=by
 unfold wordsB at h
 split at h
 ·rename_i hk
  injection h with h
  unfold kindsB at hk
  rw[beq_iff_eq] at hk
  rw[← h,textsB_len,hk]
 ·cases h
theorem qbr {l:List Tok} (hl:TkB l) {k:List UInt8} {ws:List (List UInt8)} (h:wordsB l k=some ws) {s:List UInt8} (hs:s∈ws):s.length≤2^28:=by
 unfold wordsB at h
 split at h
 ·injection h with h
  subst h
  unfold textsB at hs
  obtain⟨t,ht,rfl⟩:=List.mem_map.1 hs
  exact hl.2 t (List.mem_filter.1 ht).1
 ·cases h
theorem q1b {l:List Tok} {k:List UInt8} {ws:List (List UInt8)} (h:wordsB l k=some ws) (hk:k.countP (·==119)=1):∃a,ws=[a]:=by
 have:=qig h
 rw[hk] at this
 match ws,this with
 | [a],_=>exact⟨a,rfl⟩
theorem q1c {l:List Tok} {k:List UInt8} {ws:List (List UInt8)} (h:wordsB l k=some ws) (hk:k.countP (·==119)=2):∃a b,ws=[a,b]:=by
 have:=qig h
 rw[hk] at this
 match ws,this with
 | [a,b],_=>exact⟨a,b,rfl⟩
theorem qjj {σ:List (List AV)} {b:Nat} (h:b<σ.length) (x:List AV) (J:List (List AV)):(σ++J).set b x=σ.set b x++J:=by rw[List.set_append_left _ _ h]
theorem qb8 {σ:List (List AV)} {b:Nat} {c:List AV} (h:σ[b]? = some c) (J:List (List AV)):(σ++J)[b]? = some c:=by rw[List.getElem?_append_left (List.getElem?_eq_some_iff.1 h).1,h]
theorem qvg {σ:List (List AV)} {b:Nat} (h:b<σ.length) (y x:List AV) (J:List (List AV)):(σ.set b y++J).set b x=σ.set b x++J:=by rw[List.set_append_left _ _ (by simpa using h),List.set_set]
theorem qg4 {σ:List (List AV)} {b:Nat} (cs:List AV) (J:List (List AV)) (h:lowL σ.length cs):lowS σ (σ.set b cs++J):=by
 intro k hk
 rw[List.getElem?_append_left (by simpa using hk),List.getElem?_set]
 split
 ·rename_i e
  subst e
  rw[if_pos hk]
  exact .inr ⟨cs,rfl,h⟩
 ·exact .inl rfl
theorem qrx {σ:List (List AV)} {b:Nat} (cs:List AV) (h:lowL σ.length cs):lowS σ (σ.set b cs):=by have:=qg4 (b:=b) cs [] h;rwa [List.append_nil] at this
theorem take_app {σ:List (List AV)} {b:Nat} (c:List AV) (J:List (List AV)):(σ.set b c++J).take σ.length=σ.set b c:=by
 rw[List.take_append_of_le_length (by simp),List.take_of_length_le (by simp)]
theorem qdi {σ:List (List AV)} {b:Nat} (h:b<σ.length) (c:List AV):(σ.set b c)[b]? = some c:=by rw[List.getElem?_set_self h]
def mdP (p:Ps) (l:List Tok):Except Int Ps:=match wordsB l [119] with
 | some [s]=>stE (fstE [if p.md then 12 else 0,(pathB s:Int)]) {p with md:=true,f:={p.f with m:=s}}
 | _=>.error 11
theorem qjk:StOk 177 mdP:=by
 intro b sh p l σ hp hl hb
 have hbl:=(List.getElem?_eq_some_iff.1 hb).1
 have hg:=fun c=>qdi hbl c
 unfold mdP
 cases hw:wordsB l [119] with
 | none =>
  have h1:=form_pan b sh l (by have:=hl.1;omega) [119] (by simp) hw σ _ p.line hb rfl
  show pc _ _ _ _
  refine qbv 0 2 rfl Tryz.func177 rfl (by simp[Tryz.ntmps177]) (by kernel_rfl) (by kernel_rfl) ?_
  simp (maxSteps:=4000000) [h1]
 | some ws =>
  obtain⟨s,rfl⟩:=q1b hw (by decide)
  have hf:=form_ok b sh l (by have:=hl.1;omega) [119] (by simp) _ hw
  have hs:=qbr hl hw (List.mem_singleton_self s)
  have hP:=qb4 s (by omega)
  have hW:=fun b e=>qa8 b e
  have h2:=fun a b=>qa7 [a,b] (by simp)
  simp only[List.map_cons,List.map_nil] at hf h2
  obtain⟨pp,hpp⟩:∃e:Int,(pathB s:Int)=e:=⟨_,rfl⟩
  rw[hpp] at hP
  simp only[hpp,stE]
  obtain⟨⟨m,g,rq,ex,rp,rt⟩,line,blk,ind,md⟩:=p
  simp only[psC] at hb ⊢
  obtain⟨A1,hA1⟩:∃A,slN 41 3 (rq.map rqF)=A:=⟨_,rfl⟩
  obtain⟨A2,hA2⟩:∃A,slN 52 2 (ex.map modA)=A:=⟨_,rfl⟩
  obtain⟨A3,hA3⟩:∃A,slN 54 4 (rp.map rpF)=A:=⟨_,rfl⟩
  obtain⟨A4,hA4⟩:∃A,slN 50 2 (rt.map rtF)=A:=⟨_,rfl⟩
  rw[hA1,hA2,hA3,hA4] at hb
  by_cases he:fstE [if md=true then 12 else 0,pp]=0
  ·have hm:=qe9 b sh
   rw[if_pos he]
   simp only[hA1,hA2,hA3,hA4]
   show ev _ _ _=_
   refine q9 rfl Tryz.func177 rfl (by simp[Tryz.ntmps177]) (by kernel_rfl) (by kernel_rfl) ?_
   simp (maxSteps:=4000000) [-getElem?_pos,hf,hb,hP,hW,h2,he,hm,hg,hbl,Tryz.results177]
  ·have hm:=qba b sh σ _ line _ hb rfl he
   rw[if_neg he]
   show pc _ _ _ _
   refine qbv 1 10 rfl Tryz.func177 rfl (by simp[Tryz.ntmps177]) (by kernel_rfl) (by kernel_rfl) ?_
   simp (maxSteps:=4000000) [-getElem?_pos,hf,hb,hP,hW,h2,hm]
def goP (p:Ps) (l:List Tok):Except Int Ps:=match wordsB l [119] with
 | some [s]=>stE (fstE [if (minorB s).isSome then 0 else 11,if p.f.g=[] then 0 else 12]) {p with f:={p.f with g:=s}}
 | _=>.error 11
end Go.Proofs.Tryz.Ai
end
section
namespace Go.Proofs.Tryz.Ai
open Go Go.AI Go.Proofs
theorem qb9 {m:Nat} (t:TypeId) (n:Nat) {xs:List AV} (h:lowL m xs):low m (slN t n xs):=by
 cases xs with
 | nil=>simp[slN,low,lowL]
 | cons a l=>exact h
def rqP (p:Ps) (l:List Tok):Except Int Ps:=match wordsB l [119,119] with
 | some [s,v]=>if 200≤p.f.rq.length then .error 14 else stE (fstE [(checkB s v:Int),if p.f.rq.any (isQ s) then 12 else 0]) {p with f:={p.f with rq:=p.f.rq++[(s,v,p.ind)]}}
 | _=>.error 11
theorem qhq:StOk 179 rqP:=by
 intro b sh p l σ hp hl hb
 have hbl:=(List.getElem?_eq_some_iff.1 hb).1
 have hg:=fun c=>qdi hbl c
 unfold rqP
 cases hw:wordsB l [119,119] with
 | none =>
  have h1:=form_pan b sh l (by have:=hl.1;omega) [119,119] (by simp) hw σ _ p.line hb rfl
  show pc _ _ _ _
  refine qbv 0 2 rfl func179 rfl (by simp[ntmps179]) (by kernel_rfl) (by kernel_rfl) ?_
  simp (maxSteps:=mS) [h1]
 | some ws =>
  obtain⟨s,v,rfl⟩:=q1c hw (by decide)
  have hf:=form_ok b sh l (by have:=hl.1;omega) [119,119] (by simp) _ hw
  have hs:=qbr hl hw (s:=s) (by simp)
  have hv:=qbr hl hw (s:=v) (by simp)
  have hP:=qer s v (by omega) (by omega)
  have hW:=fun b e=>qa8 b e
  have h2:=fun a b=>qa7 [a,b] (by simp)
  simp only[List.map_cons,List.map_nil] at hf h2
  obtain⟨pp,hpp⟩:∃e:Int,(checkB s v:Int)=e:=⟨_,rfl⟩
  rw[hpp] at hP
  simp only[hpp,stE]
  have hlq:=hp.lq
  obtain⟨⟨m,g,rq,ex,rp,rt⟩,line,blk,ind,md⟩:=p
  simp only[psC] at hb hlq ⊢
  obtain⟨A2,hA2⟩:∃A,slN 52 2 (ex.map modA)=A:=⟨_,rfl⟩
  rw[hA2] at hb
  have lw2:low σ.length A2:=by rw[← hA2];exact qb9 _ _ (by simp)
  obtain⟨A3,hA3⟩:∃A,slN 54 4 (rp.map rpF)=A:=⟨_,rfl⟩
  rw[hA3] at hb
  have lw3:low σ.length A3:=by rw[← hA3];exact qb9 _ _ (by simp)
  obtain⟨A4,hA4⟩:∃A,slN 50 2 (rt.map rtF)=A:=⟨_,rfl⟩
  rw[hA4] at hb
  have lw4:low σ.length A4:=by rw[← hA4];exact qb9 _ _ (by simp)
  have hO:=fun σ=>qyq (s,v,ind) σ
  have hOP:=fun σ=>qep s σ
  have hCF:=fun (S:List (List AV))=>qbk rq (by omega) 132 (by decide) [.gp S.length 0 (some (9,1))] (by simp[args,arg,dem]) (isQ s) (S++[[.str s]]) (fun y _=>qdv s _ _ y _ (by simp))
  obtain⟨t,ht⟩:∃t,rq.any (isQ s)=t:=⟨_,rfl⟩
  simp only[ht] at hCF ⊢
  simp only[rqFx,modAx] at hO
  obtain⟨E,hE⟩:∃E,fstE [pp,if t=true then 12 else 0]=E:=⟨_,rfl⟩
  rw[hE]
  obtain⟨L,hL⟩:∃L,rq.map rqF=L:=⟨_,rfl⟩
  have hLl:L.length=rq.length:=by rw[← hL];simp
  have hall:allCells 3 L:=by rw[← hL];simp
  rw[hL] at hb hCF
  by_cases hr:200≤rq.length
  ·rw[if_pos hr]
   show pc _ _ _ _
   have hm:=fun J=>qnq b sh rq.length hr (σ++J) _ line (qb8 hb J) rfl
   have hm0:=qnq b sh rq.length hr σ _ line hb rfl
   rcases qbz 41 3 L with ⟨h0,h1⟩|h1
   ·rw[h0] at hLl;simp at hLl;omega
   ·rw[h1] at hb
    refine qbv 2 7 rfl func179 rfl (by simp[ntmps179]) (by kernel_rfl) (by kernel_rfl) ?_
    simp (maxSteps:=mS) [-getElem?_pos,-qb,hf]
    refine qg [5] _ (k:=?_)
    repeat (first|refine qd _ (hs:=by simp (maxSteps:=mS) [-getElem?_pos,hb];exact rfl) (k:=?_)|refine qe _ (k:=?_))
    refine qc ?_
    simp (maxSteps:=mS) [-getElem?_pos,hb,hLl,hm,hm0]
  ·rw[if_neg hr]
   have hr':rq.length<200:=by omega
   have hR:=qyr b sh rq.length hr'
   have hx:slN 41 3 ((rq++[(s,v,ind)]).map rqF)=.sl (.ex 41 3) (L++[.agg [.str s,.str v,.bool ind]]):=by rw[List.map_append,hL];exact qfy _ _ _ _
   have lwL:lowL σ.length L:=by rw[← hL];simp
   have lwx:low σ.length (.agg [.str s,.str v,.bool ind]):=by simp[low,lowL]
   have hR0:rq.length=0→∀σ,ev 233 [.gp b 0 sh,.int .i64 0] σ=some (.tup [],σ):=fun h=>by rw[h] at hR;exact hR
   by_cases he:E=0
   ·rw[if_pos he]
    simp only[hA2,hA3,hA4,hx]
    show ev _ _ _=_
    have hm:=qe9 b sh
    have hac:allCells 3 [.agg [.str s,.str v,.bool ind]]:=by simp[allCells,AV.cells]
    have hlm:L.length+1≤most:=by unfold most;omega
    have h1m:1≤most:=by unfold most;omega
    have hsa:=fun x J=>qjj hbl x J
    have hsa2:=fun y x J=>qvg hbl y x J
    have hg2:∀(c:List AV) (J:List (List AV)),(σ.set b c++J)[b]? = some c:=fun c J=>qb8 (hg c) J
    subst he
    rcases qbz 41 3 L with ⟨h0,h1⟩|h1
    ·subst h0
     replace hR0:=hR0 (by simpa using hLl.symm)
     rw[h1] at hb
     have hga:=fun J=>qb8 hb J
     refine qk func179 ntmps179 ?_
     simp (maxSteps:=mS) [-getElem?_pos,-qb,hf]
     refine qg [5] _ (k:=?_)
     repeat (first|refine qd _ (hs:=by simp (maxSteps:=mS) [-getElem?_pos,hb];exact rfl) (k:=?_)|refine qe _ (k:=?_))
     refine qc ?_
     simp (maxSteps:=mS) [-getElem?_pos,-qb,hb,hR0]
     refine qg [] _ (k:=?_)
     repeat (first|refine qd _ (hs:=by simp (maxSteps:=mS) [-getElem?_pos,hb,hW,h2,hE,hm,hO,hP,hOP,hCF];exact rfl) (k:=?_)|refine qe _ (k:=?_))
     refine qc ?_
     simp (maxSteps:=mS) [-getElem?_pos,-qb]
     refine qg [] _ (k:=?_)
     repeat (first|refine qd _ (hs:=by simp (maxSteps:=mS) [-getElem?_pos,hb,hga,hg,hsa,hg2,hac,hall,hlm,h1m];exact rfl) (k:=?_)|refine qe _ (k:=?_))
     refine qc ?_
     simp (maxSteps:=mS) [-getElem?_pos,hsa,hsa2,hg2,hg,take_app,results179]
     all_goals rw[qo (qg4 _ _ (by simp[low,lowL,lw2,lw3,lw4,lwL]))]
    ·rw[h1] at hb
     have hga:=fun J=>qb8 hb J
     refine qk func179 ntmps179 ?_
     simp (maxSteps:=mS) [-getElem?_pos,-qb,hf]
     refine qg [5] _ (k:=?_)
     repeat (first|refine qd _ (hs:=by simp (maxSteps:=mS) [-getElem?_pos,hb];exact rfl) (k:=?_)|refine qe _ (k:=?_))
     refine qc ?_
     simp (maxSteps:=mS) [-getElem?_pos,-qb,hb,hLl,hR]
     refine qg [] _ (k:=?_)
     repeat (first|refine qd _ (hs:=by simp (maxSteps:=mS) [-getElem?_pos,hb,hW,h2,hE,hm,hO,hP,hOP,hCF];exact rfl) (k:=?_)|refine qe _ (k:=?_))
     refine qc ?_
     simp (maxSteps:=mS) [-getElem?_pos,-qb]
     refine qg [] _ (k:=?_)
     repeat (first|refine qd _ (hs:=by simp (maxSteps:=mS) [-getElem?_pos,hb,hga,hg,hsa,hg2,hac,hall,hlm,h1m];exact rfl) (k:=?_)|refine qe _ (k:=?_))
     refine qc ?_
     simp (maxSteps:=mS) [-getElem?_pos,hsa,hsa2,hg2,hg,take_app,results179]
     all_goals rw[qo (qg4 _ _ (by simp[low,lowL,lw2,lw3,lw4,lwL]))]
   ·rw[if_neg he]
    show pc _ _ _ _
    have hm:=fun J=>qba b sh (σ++J) _ line _ (qb8 hb J) rfl he
    have hm0:=qba b sh σ _ line _ hb rfl he
    rcases qbz 41 3 L with ⟨h0,h1⟩|h1
    ·subst h0
     replace hR0:=hR0 (by simpa using hLl.symm)
     rw[h1] at hb
     refine qbv 3 16 rfl func179 rfl (by simp[ntmps179]) (by kernel_rfl) (by kernel_rfl) ?_
     simp (maxSteps:=mS) [-getElem?_pos,-qb,hf]
     refine qg [5] _ (k:=?_)
     repeat (first|refine qd _ (hs:=by simp (maxSteps:=mS) [-getElem?_pos,hb];exact rfl) (k:=?_)|refine qe _ (k:=?_))
     refine qc ?_
     simp (maxSteps:=mS) [-getElem?_pos,-qb,hb,hR0]
     refine qfx [] _ _ (by kernel_rfl) (by rfl) (by rfl) (by simp (maxSteps:=mS) [];exact rfl) (by simp only[List.length_cons,List.length_nil,Nat.reduceAdd,Nat.reduceSub,List.take_succ_cons,List.take_zero];exact rfl) ?_
     repeat (first|refine qd _ (hs:=by simp (maxSteps:=mS) [-getElem?_pos,hb,hW,h2,hE,hO,hP,hOP,hCF];exact rfl) (k:=?_)|refine qe _ (k:=?_))
     refine qc ?_
     simp (maxSteps:=mS) [hm,hm0]
    ·rw[h1] at hb
     refine qbv 3 16 rfl func179 rfl (by simp[ntmps179]) (by kernel_rfl) (by kernel_rfl) ?_
     simp (maxSteps:=mS) [-getElem?_pos,-qb,hf]
     refine qg [5] _ (k:=?_)
     repeat (first|refine qd _ (hs:=by simp (maxSteps:=mS) [-getElem?_pos,hb];exact rfl) (k:=?_)|refine qe _ (k:=?_))
     refine qc ?_
     simp (maxSteps:=mS) [-getElem?_pos,-qb,hb,hLl,hR]
     refine qfx [] _ _ (by kernel_rfl) (by rfl) (by rfl) (by simp (maxSteps:=mS) [];exact rfl) (by simp only[List.length_cons,List.length_nil,Nat.reduceAdd,Nat.reduceSub,List.take_succ_cons,List.take_zero];exact rfl) ?_
     repeat (first|refine qd _ (hs:=by simp (maxSteps:=mS) [-getElem?_pos,hb,hW,h2,hE,hO,hP,hOP,hCF];exact rfl) (k:=?_)|refine qe _ (k:=?_))
     refine qc ?_
     simp (maxSteps:=mS) [hm,hm0]
end Go.Proofs.Tryz.Ai
end
section
namespace Go.Proofs.Tryz.Ai
open Go Go.AI Go.Proofs
def exP (p:Ps) (l:List Tok):Except Int Ps:=match wordsB l [119,119] with
 | some [s,v]=>if 200≤p.f.ex.length then .error 14 else stE (fstE [(checkB s v:Int),if p.f.ex.any ((s,v)==·) then 12 else 0]) {p with f:={p.f with ex:=p.f.ex++[(s,v)]}}
 | _=>.error 11
end Go.Proofs.Tryz.Ai
end
section
namespace Go.Proofs.Tryz.Ai
open Go Go.AI Go.Proofs
def rpW (l:List Tok):Option Rp:=match wordsB l [119,62,119,119] with
 | some [a,c,d]=>some ((a,[]),c,d)
 | _=>match wordsB l [119,119,62,119,119] with
  | some [a,b,c,d]=>some ((a,b),c,d)
  | _=>none
def rpP (p:Ps) (l:List Tok):Except Int Ps:=match rpW l with
 | some r=>if 200≤p.f.rp.length then .error 14 else stE (fstE [rpE r,if p.f.rp.any (fun x=>isM r.1 x.1) then 12 else 0]) {p with f:={p.f with rp:=p.f.rp++[r]}}
 | none=>.error 11
end Go.Proofs.Tryz.Ai
end
section
namespace Go.Proofs.Tryz.Ai
open Go Go.AI Go.Proofs
def rtW (l:List Tok):Option Rt:=match wordsB l [119] with
 | some [a]=>some (a,a)
 | _=>match wordsB l [91,119,44,119,93] with
  | some [a,b]=>some (a,b)
  | _=>none
def rtP (p:Ps) (l:List Tok):Except Int Ps:=match rtW l with
 | some r=>if 200≤p.f.rt.length then .error 14 else stE (fstE [rtE r,if p.f.rt.any (r==·) then 12 else 0]) {p with f:={p.f with rt:=p.f.rt++[r]}}
 | none=>.error 11
end Go.Proofs.Tryz.Ai
end
