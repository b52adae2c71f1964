/- Part 26 of a proof: a Go function is evaluated on abstract values (texts D13 .. D13); no conditions beyond those of each theorem. -/
import Derived.Test.YtjkkcelnfokplaaGreatDoorAi25
set_option linter.all false
set_option linter.unusedVariables false
set_option linter.unusedSimpArgs false
set_option linter.unnecessarySimpa false
section
namespace Go.Proofs.Tryz.Ai
open Go Go.AI Go.Proofs
set_option maxHeartbeats 8000000
set_option maxRecDepth 4000
set_option linter.unusedVariables false
def rtW (l:List Tok):Option Rt:=match wordsB l [119] with
 | some [a]=>some (a,a)
 | _=>match wordsB l [91,119,44,119,93] with
  | some [a,b]=>some (a,b)
  | _=>none
def rtP (p:Ps) (l:List Tok):Except Int Ps:=match rtW l with
 | some r=>if 200≤p.f.rt.length then .error 14 else stE (fstE [rtE r,if p.f.rt.any (r==·) then 12 else 0]) {p with f:={p.f with rt:=p.f.rt++[r]}}
 | none=>.error 11
theorem qhw:StOk 182 rtP:=by
 intro b sh p l σ hp hl hb
 have hbl:=(List.getElem?_eq_some_iff.1 hb).1
 have hg:=fun c=>qbr hbl c
 have hwq:=qd0 l (by have:=hl.1;omega) [119] (by simp)
 have hW:=fun b e=>qau b e
 have h2:=fun a b=>qan [a,b] (by simp)
 have hlq:=hp.lt
 simp only[List.map_cons,List.map_nil] at h2
 cases hw:wordsB l [119] with
 | none =>
  rw[hw] at hwq
  simp only[wordsAV,Option.getD_none,Option.isSome_none,List.map_nil] at hwq
  cases hw2:wordsB l [91,119,44,119,93] with
  | none =>
   have hW0:rtW l=none:=by unfold rtW;rw[hw,hw2]
   have h1:=form_pan b sh l (by have:=hl.1;omega) [91,119,44,119,93] (by simp) hw2 σ _ p.line hb rfl
   unfold rtP
   rw[hW0]
   show pc _ _ _ _
   refine qaa 3 2 rfl Tryz.func182 rfl (by simp[Tryz.ntmps182]) (by kernel_rfl) (by kernel_rfl) ?_
   simp (maxSteps:=4000000) [-getElem?_pos,hwq,h1]
  | some ws =>
   obtain⟨a,b0,rfl⟩:=qsf hw2 (by decide)
   have hf:=form_ok b sh l (by have:=hl.1;omega) [91,119,44,119,93] (by simp) _ hw2
   simp only[List.map_cons,List.map_nil] at hf
   have hW0:rtW l=some (a,b0):=by unfold rtW;rw[hw,hw2]
   unfold rtP
   rw[hW0]
   have ha:=qp hl hw2 (s:=a) (by simp)
   have hb0:=qp hl hw2 (s:=b0) (by simp)
   have hP:=fun σ=>qb9 (a,b0) ⟨by simp only;omega,by simp only;omega⟩ σ
   have hCF:=fun σ=>qfn p.f.rt (by omega) (a,b0) σ
   simp only[rtFx (a,b0)] at hP hCF
   obtain⟨pp,hpp⟩:∃e:Int,rtE (a,b0)=e:=⟨_,rfl⟩
   rw[hpp] at hP
   simp only[hpp,stE]
   obtain⟨⟨m,g,rq,ex,rp,rt⟩,line,blk,ind,md⟩:=p
   simp only[psC] at hb hlq hCF ⊢
   obtain⟨A1,hA1⟩:∃A,slN 41 3 (rq.map rqF)=A:=⟨_,rfl⟩
   rw[hA1] at hb
   have lw1:low σ.length A1:=by rw[← hA1];exact qae _ _ (by simp)
   obtain⟨A2,hA2⟩:∃A,slN 52 2 (ex.map modA)=A:=⟨_,rfl⟩
   rw[hA2] at hb
   have lw2:low σ.length A2:=by rw[← hA2];exact qae _ _ (by simp)
   obtain⟨A3,hA3⟩:∃A,slN 54 4 (rp.map rpF)=A:=⟨_,rfl⟩
   rw[hA3] at hb
   have lw3:low σ.length A3:=by rw[← hA3];exact qae _ _ (by simp)
   obtain⟨t,ht⟩:∃t,rt.any ((a,b0)==·)=t:=⟨_,rfl⟩
   simp only[ht] at hCF ⊢
   obtain⟨E,hE⟩:∃E,fstE [pp,if t=true then 12 else 0]=E:=⟨_,rfl⟩
   rw[hE]
   obtain⟨L,hL⟩:∃L,rt.map rtF=L:=⟨_,rfl⟩
   have hLl:L.length=rt.length:=by rw[← hL];simp
   have hall:allCells 2 L:=by rw[← hL];simp
   rw[hL] at hb hCF
   by_cases hr:200≤rt.length
   ·rw[if_pos hr]
    show pc _ _ _ _
    have hm:=fun J=>qa6 b sh rt.length hr (σ++J) _ line (qx hb J) rfl
    have hm0:=qa6 b sh rt.length hr σ _ line hb rfl
    rcases q8 50 2 L with ⟨h0,h1⟩|h1
    ·rw[h0] at hLl;simp at hLl;omega
    ·rw[h1] at hb
     refine qaa 5 7 rfl Tryz.func182 rfl (by simp[Tryz.ntmps182]) (by kernel_rfl) (by kernel_rfl) ?_
     simp (maxSteps:=4000000) [-getElem?_pos,-qb,hwq,hf]
     refine qg [6] _ (k:=?_)
     repeat (first|refine qd _ (hs:=by simp (maxSteps:=4000000) [-getElem?_pos,hb];exact rfl) (k:=?_)|refine qe _ (k:=?_))
     refine qc ?_
     simp (maxSteps:=4000000) [-getElem?_pos,hb,hLl,hm,hm0]
   ·rw[if_neg hr]
    have hr':rt.length<200:=by omega
    have hR:=qfc b sh rt.length hr'
    have hx:slN 50 2 ((rt++[(a,b0)]).map rtF)=.sl (.ex 50 2) (L++[.agg [.str a,.str b0]]):=by rw[List.map_append,hL];exact qbv _ _ _ _
    have lwL:lowL σ.length L:=by rw[← hL];simp
    have lwx:low σ.length (.agg [.str a,.str b0]):=by simp[low,lowL]
    have hR0:rt.length=0→∀σ,ev 233 [.gp b 0 sh,.int .i64 0] σ=some (.tup [],σ):=fun h=>by rw[h] at hR;exact hR
    by_cases he:E=0
    ·rw[if_pos he]
     simp only[hA1,hA2,hA3,hx]
     show ev _ _ _=_
     have hm:=qbq b sh
     have hac:allCells 2 [.agg [.str a,.str b0]]:=by simp[allCells,AV.cells]
     have hlm:L.length+1≤most:=by unfold most;omega
     have h1m:1≤most:=by unfold most;omega
     have hsa:=fun x J=>qc7 hbl x J
     have hsa2:=fun y x J=>qd2 hbl y x J
     have hg2:∀(c:List AV) (J:List (List AV)),(σ.set b c++J)[b]? = some c:=fun c J=>qx (hg c) J
     subst he
     rcases q8 50 2 L with ⟨h0,h1⟩|h1
     ·subst h0
      replace hR0:=hR0 (by simpa using hLl.symm)
      rw[h1] at hb
      have hga:=fun J=>qx hb J
      refine qf rfl Tryz.func182 rfl (by simp[Tryz.ntmps182]) (by kernel_rfl) (by kernel_rfl) ?_
      simp (maxSteps:=4000000) [-getElem?_pos,-qb,hwq,hf]
      refine qg [6] _ (k:=?_)
      repeat (first|refine qd _ (hs:=by simp (maxSteps:=4000000) [-getElem?_pos,hb];exact rfl) (k:=?_)|refine qe _ (k:=?_))
      refine qc ?_
      simp (maxSteps:=4000000) [-getElem?_pos,-qb,hb,hR0]
      refine qg [] _ (k:=?_)
      repeat (first|refine qd _ (hs:=by simp (maxSteps:=4000000) [-getElem?_pos,hb,hW,h2,hE,hm,hP,hCF];exact rfl) (k:=?_)|refine qe _ (k:=?_))
      refine qc ?_
      simp (maxSteps:=4000000) [-getElem?_pos,-qb]
      refine qg [] _ (k:=?_)
      repeat (first|refine qd _ (hs:=by simp (maxSteps:=4000000) [-getElem?_pos,hb,hga,hg,hsa,hg2,hac,hall,hlm,h1m];exact rfl) (k:=?_)|refine qe _ (k:=?_))
      refine qc ?_
      simp (maxSteps:=4000000) [-getElem?_pos,hsa,hsa2,hg2,hg,take_app,Tryz.results182]
      all_goals rw[qn (qa7 _ _ (by simp[low,lowL,lw1,lw2,lw3,lwL]))]
     ·rw[h1] at hb
      have hga:=fun J=>qx hb J
      refine qf rfl Tryz.func182 rfl (by simp[Tryz.ntmps182]) (by kernel_rfl) (by kernel_rfl) ?_
      simp (maxSteps:=4000000) [-getElem?_pos,-qb,hwq,hf]
      refine qg [6] _ (k:=?_)
      repeat (first|refine qd _ (hs:=by simp (maxSteps:=4000000) [-getElem?_pos,hb];exact rfl) (k:=?_)|refine qe _ (k:=?_))
      refine qc ?_
      simp (maxSteps:=4000000) [-getElem?_pos,-qb,hb,hLl,hR]
      refine qg [] _ (k:=?_)
      repeat (first|refine qd _ (hs:=by simp (maxSteps:=4000000) [-getElem?_pos,hb,hW,h2,hE,hm,hP,hCF];exact rfl) (k:=?_)|refine qe _ (k:=?_))
      refine qc ?_
      simp (maxSteps:=4000000) [-getElem?_pos,-qb]
      refine qg [] _ (k:=?_)
      repeat (first|refine qd _ (hs:=by simp (maxSteps:=4000000) [-getElem?_pos,hb,hga,hg,hsa,hg2,hac,hall,hlm,h1m];exact rfl) (k:=?_)|refine qe _ (k:=?_))
      refine qc ?_
      simp (maxSteps:=4000000) [-getElem?_pos,hsa,hsa2,hg2,hg,take_app,Tryz.results182]
      all_goals rw[qn (qa7 _ _ (by simp[low,lowL,lw1,lw2,lw3,lwL]))]
    ·rw[if_neg he]
     show pc _ _ _ _
     have hm:=fun J=>qab b sh (σ++J) _ line _ (qx hb J) rfl he
     have hm0:=qab b sh σ _ line _ hb rfl he
     rcases q8 50 2 L with ⟨h0,h1⟩|h1
     ·subst h0
      replace hR0:=hR0 (by simpa using hLl.symm)
      rw[h1] at hb
      refine qaa 6 13 rfl Tryz.func182 rfl (by simp[Tryz.ntmps182]) (by kernel_rfl) (by kernel_rfl) ?_
      simp (maxSteps:=4000000) [-getElem?_pos,-qb,hwq,hf]
      refine qg [6] _ (k:=?_)
      repeat (first|refine qd _ (hs:=by simp (maxSteps:=4000000) [-getElem?_pos,hb];exact rfl) (k:=?_)|refine qe _ (k:=?_))
      refine qc ?_
      simp (maxSteps:=4000000) [-getElem?_pos,-qb,hb,hR0]
      refine qal [] _ _ (by kernel_rfl) (by rfl) (by rfl) (by simp (maxSteps:=4000000) [];exact rfl) (by simp only[List.length_cons,List.length_nil,Nat.reduceAdd,Nat.reduceSub,List.take_succ_cons,List.take_zero];exact rfl) ?_
      repeat (first|refine qd _ (hs:=by simp (maxSteps:=4000000) [-getElem?_pos,hb,hW,h2,hE,hP,hCF];exact rfl) (k:=?_)|refine qe _ (k:=?_))
      refine qc ?_
      simp (maxSteps:=4000000) [hm,hm0]
     ·rw[h1] at hb
      refine qaa 6 13 rfl Tryz.func182 rfl (by simp[Tryz.ntmps182]) (by kernel_rfl) (by kernel_rfl) ?_
      simp (maxSteps:=4000000) [-getElem?_pos,-qb,hwq,hf]
      refine qg [6] _ (k:=?_)
      repeat (first|refine qd _ (hs:=by simp (maxSteps:=4000000) [-getElem?_pos,hb];exact rfl) (k:=?_)|refine qe _ (k:=?_))
      refine qc ?_
      simp (maxSteps:=4000000) [-getElem?_pos,-qb,hb,hLl,hR]
      refine qal [] _ _ (by kernel_rfl) (by rfl) (by rfl) (by simp (maxSteps:=4000000) [];exact rfl) (by simp only[List.length_cons,List.length_nil,Nat.reduceAdd,Nat.reduceSub,List.take_succ_cons,List.take_zero];exact rfl) ?_
      repeat (first|refine qd _ (hs:=by simp (maxSteps:=4000000) [-getElem?_pos,hb,hW,h2,hE,hP,hCF];exact rfl) (k:=?_)|refine qe _ (k:=?_))
      refine qc ?_
      simp (maxSteps:=4000000) [hm,hm0]
 | some ws =>
  obtain⟨a,rfl⟩:=qse hw (by decide)
  rw[hw] at hwq
  simp only[wordsAV,Option.getD_some,Option.isSome_some,List.map_cons,List.map_nil] at hwq
  have hW0:rtW l=some (a,a):=by unfold rtW;rw[hw]
  unfold rtP
  rw[hW0]
  have ha:=qp hl hw (s:=a) (by simp)
  have hP:=fun σ=>qb9 (a,a) ⟨by simp only;omega,by simp only;omega⟩ σ
  have hCF:=fun σ=>qfn p.f.rt (by omega) (a,a) σ
  simp only[rtFx (a,a)] at hP hCF
  obtain⟨pp,hpp⟩:∃e:Int,rtE (a,a)=e:=⟨_,rfl⟩
  rw[hpp] at hP
  simp only[hpp,stE]
  obtain⟨⟨m,g,rq,ex,rp,rt⟩,line,blk,ind,md⟩:=p
  simp only[psC] at hb hlq hCF ⊢
  obtain⟨A1,hA1⟩:∃A,slN 41 3 (rq.map rqF)=A:=⟨_,rfl⟩
  rw[hA1] at hb
  have lw1:low σ.length A1:=by rw[← hA1];exact qae _ _ (by simp)
  obtain⟨A2,hA2⟩:∃A,slN 52 2 (ex.map modA)=A:=⟨_,rfl⟩
  rw[hA2] at hb
  have lw2:low σ.length A2:=by rw[← hA2];exact qae _ _ (by simp)
  obtain⟨A3,hA3⟩:∃A,slN 54 4 (rp.map rpF)=A:=⟨_,rfl⟩
  rw[hA3] at hb
  have lw3:low σ.length A3:=by rw[← hA3];exact qae _ _ (by simp)
  obtain⟨t,ht⟩:∃t,rt.any ((a,a)==·)=t:=⟨_,rfl⟩
  simp only[ht] at hCF ⊢
  obtain⟨E,hE⟩:∃E,fstE [pp,if t=true then 12 else 0]=E:=⟨_,rfl⟩
  rw[hE]
  obtain⟨L,hL⟩:∃L,rt.map rtF=L:=⟨_,rfl⟩
  have hLl:L.length=rt.length:=by rw[← hL];simp
  have hall:allCells 2 L:=by rw[← hL];simp
  rw[hL] at hb hCF
  by_cases hr:200≤rt.length
  ·rw[if_pos hr]
   show pc _ _ _ _
   have hm:=fun J=>qa6 b sh rt.length hr (σ++J) _ line (qx hb J) rfl
   have hm0:=qa6 b sh rt.length hr σ _ line hb rfl
   rcases q8 50 2 L with ⟨h0,h1⟩|h1
   ·rw[h0] at hLl;simp at hLl;omega
   ·rw[h1] at hb
    refine qaa 5 7 rfl Tryz.func182 rfl (by simp[Tryz.ntmps182]) (by kernel_rfl) (by kernel_rfl) ?_
    simp (maxSteps:=4000000) [-getElem?_pos,-qb,hwq]
    refine qg [] _ (k:=?_)
    repeat (first|refine qd _ (hs:=by simp (maxSteps:=4000000) [-getElem?_pos];exact rfl) (k:=?_)|refine qe _ (k:=?_))
    refine qc ?_
    simp (maxSteps:=4000000) [-getElem?_pos,-qb]
    refine qg [6] _ (k:=?_)
    repeat (first|refine qd _ (hs:=by simp (maxSteps:=4000000) [-getElem?_pos,hb];exact rfl) (k:=?_)|refine qe _ (k:=?_))
    refine qc ?_
    simp (maxSteps:=4000000) [-getElem?_pos,hb,hLl,hm,hm0]
  ·rw[if_neg hr]
   have hr':rt.length<200:=by omega
   have hR:=qfc b sh rt.length hr'
   have hx:slN 50 2 ((rt++[(a,a)]).map rtF)=.sl (.ex 50 2) (L++[.agg [.str a,.str a]]):=by rw[List.map_append,hL];exact qbv _ _ _ _
   have lwL:lowL σ.length L:=by rw[← hL];simp
   have lwx:low σ.length (.agg [.str a,.str a]):=by simp[low,lowL]
   have hR0:rt.length=0→∀σ,ev 233 [.gp b 0 sh,.int .i64 0] σ=some (.tup [],σ):=fun h=>by rw[h] at hR;exact hR
   by_cases he:E=0
   ·rw[if_pos he]
    simp only[hA1,hA2,hA3,hx]
    show ev _ _ _=_
    have hm:=qbq b sh
    have hac:allCells 2 [.agg [.str a,.str a]]:=by simp[allCells,AV.cells]
    have hlm:L.length+1≤most:=by unfold most;omega
    have h1m:1≤most:=by unfold most;omega
    have hsa:=fun x J=>qc7 hbl x J
    have hsa2:=fun y x J=>qd2 hbl y x J
    have hg2:∀(c:List AV) (J:List (List AV)),(σ.set b c++J)[b]? = some c:=fun c J=>qx (hg c) J
    subst he
    rcases q8 50 2 L with ⟨h0,h1⟩|h1
    ·subst h0
     replace hR0:=hR0 (by simpa using hLl.symm)
     rw[h1] at hb
     have hga:=fun J=>qx hb J
     refine qf rfl Tryz.func182 rfl (by simp[Tryz.ntmps182]) (by kernel_rfl) (by kernel_rfl) ?_
     simp (maxSteps:=4000000) [-getElem?_pos,-qb,hwq]
     refine qg [] _ (k:=?_)
     repeat (first|refine qd _ (hs:=by simp (maxSteps:=4000000) [-getElem?_pos];exact rfl) (k:=?_)|refine qe _ (k:=?_))
     refine qc ?_
     simp (maxSteps:=4000000) [-getElem?_pos,-qb]
     refine qg [6] _ (k:=?_)
     repeat (first|refine qd _ (hs:=by simp (maxSteps:=4000000) [-getElem?_pos,hb];exact rfl) (k:=?_)|refine qe _ (k:=?_))
     refine qc ?_
     simp (maxSteps:=4000000) [-getElem?_pos,-qb,hb,hR0]
     refine qg [] _ (k:=?_)
     repeat (first|refine qd _ (hs:=by simp (maxSteps:=4000000) [-getElem?_pos,hb,hW,h2,hE,hm,hP,hCF];exact rfl) (k:=?_)|refine qe _ (k:=?_))
     refine qc ?_
     simp (maxSteps:=4000000) [-getElem?_pos,-qb]
     refine qg [] _ (k:=?_)
     repeat (first|refine qd _ (hs:=by simp (maxSteps:=4000000) [-getElem?_pos,hb,hga,hg,hsa,hg2,hac,hall,hlm,h1m];exact rfl) (k:=?_)|refine qe _ (k:=?_))
     refine qc ?_
     simp (maxSteps:=4000000) [-getElem?_pos,hsa,hsa2,hg2,hg,take_app,Tryz.results182]
     all_goals rw[qn (qa7 _ _ (by simp[low,lowL,lw1,lw2,lw3,lwL]))]
    ·rw[h1] at hb
     have hga:=fun J=>qx hb J
     refine qf rfl Tryz.func182 rfl (by simp[Tryz.ntmps182]) (by kernel_rfl) (by kernel_rfl) ?_
     simp (maxSteps:=4000000) [-getElem?_pos,-qb,hwq]
     refine qg [] _ (k:=?_)
     repeat (first|refine qd _ (hs:=by simp (maxSteps:=4000000) [-getElem?_pos];exact rfl) (k:=?_)|refine qe _ (k:=?_))
     refine qc ?_
     simp (maxSteps:=4000000) [-getElem?_pos,-qb]
     refine qg [6] _ (k:=?_)
     repeat (first|refine qd _ (hs:=by simp (maxSteps:=4000000) [-getElem?_pos,hb];exact rfl) (k:=?_)|refine qe _ (k:=?_))
     refine qc ?_
     simp (maxSteps:=4000000) [-getElem?_pos,-qb,hb,hLl,hR]
     refine qg [] _ (k:=?_)
     repeat (first|refine qd _ (hs:=by simp (maxSteps:=4000000) [-getElem?_pos,hb,hW,h2,hE,hm,hP,hCF];exact rfl) (k:=?_)|refine qe _ (k:=?_))
     refine qc ?_
     simp (maxSteps:=4000000) [-getElem?_pos,-qb]
     refine qg [] _ (k:=?_)
     repeat (first|refine qd _ (hs:=by simp (maxSteps:=4000000) [-getElem?_pos,hb,hga,hg,hsa,hg2,hac,hall,hlm,h1m];exact rfl) (k:=?_)|refine qe _ (k:=?_))
     refine qc ?_
     simp (maxSteps:=4000000) [-getElem?_pos,hsa,hsa2,hg2,hg,take_app,Tryz.results182]
     all_goals rw[qn (qa7 _ _ (by simp[low,lowL,lw1,lw2,lw3,lwL]))]
   ·rw[if_neg he]
    show pc _ _ _ _
    have hm:=fun J=>qab b sh (σ++J) _ line _ (qx hb J) rfl he
    have hm0:=qab b sh σ _ line _ hb rfl he
    rcases q8 50 2 L with ⟨h0,h1⟩|h1
    ·subst h0
     replace hR0:=hR0 (by simpa using hLl.symm)
     rw[h1] at hb
     refine qaa 6 13 rfl Tryz.func182 rfl (by simp[Tryz.ntmps182]) (by kernel_rfl) (by kernel_rfl) ?_
     simp (maxSteps:=4000000) [-getElem?_pos,-qb,hwq]
     refine qg [] _ (k:=?_)
     repeat (first|refine qd _ (hs:=by simp (maxSteps:=4000000) [-getElem?_pos];exact rfl) (k:=?_)|refine qe _ (k:=?_))
     refine qc ?_
     simp (maxSteps:=4000000) [-getElem?_pos,-qb]
     refine qg [6] _ (k:=?_)
     repeat (first|refine qd _ (hs:=by simp (maxSteps:=4000000) [-getElem?_pos,hb];exact rfl) (k:=?_)|refine qe _ (k:=?_))
     refine qc ?_
     simp (maxSteps:=4000000) [-getElem?_pos,-qb,hb,hR0]
     refine qal [] _ _ (by kernel_rfl) (by rfl) (by rfl) (by simp (maxSteps:=4000000) [];exact rfl) (by simp only[List.length_cons,List.length_nil,Nat.reduceAdd,Nat.reduceSub,List.take_succ_cons,List.take_zero];exact rfl) ?_
     repeat (first|refine qd _ (hs:=by simp (maxSteps:=4000000) [-getElem?_pos,hb,hW,h2,hE,hP,hCF];exact rfl) (k:=?_)|refine qe _ (k:=?_))
     refine qc ?_
     simp (maxSteps:=4000000) [hm,hm0]
    ·rw[h1] at hb
     refine qaa 6 13 rfl Tryz.func182 rfl (by simp[Tryz.ntmps182]) (by kernel_rfl) (by kernel_rfl) ?_
     simp (maxSteps:=4000000) [-getElem?_pos,-qb,hwq]
     refine qg [] _ (k:=?_)
     repeat (first|refine qd _ (hs:=by simp (maxSteps:=4000000) [-getElem?_pos];exact rfl) (k:=?_)|refine qe _ (k:=?_))
     refine qc ?_
     simp (maxSteps:=4000000) [-getElem?_pos,-qb]
     refine qg [6] _ (k:=?_)
     repeat (first|refine qd _ (hs:=by simp (maxSteps:=4000000) [-getElem?_pos,hb];exact rfl) (k:=?_)|refine qe _ (k:=?_))
     refine qc ?_
     simp (maxSteps:=4000000) [-getElem?_pos,-qb,hb,hLl,hR]
     refine qal [] _ _ (by kernel_rfl) (by rfl) (by rfl) (by simp (maxSteps:=4000000) [];exact rfl) (by simp only[List.length_cons,List.length_nil,Nat.reduceAdd,Nat.reduceSub,List.take_succ_cons,List.take_zero];exact rfl) ?_
     repeat (first|refine qd _ (hs:=by simp (maxSteps:=4000000) [-getElem?_pos,hb,hW,h2,hE,hP,hCF];exact rfl) (k:=?_)|refine qe _ (k:=?_))
     refine qc ?_
     simp (maxSteps:=4000000) [hm,hm0]
end Go.Proofs.Tryz.Ai
end
