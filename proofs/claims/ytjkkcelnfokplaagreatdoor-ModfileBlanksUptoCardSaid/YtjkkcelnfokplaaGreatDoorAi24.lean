/- Part 24 of a proof: a Go function is evaluated on abstract values (texts D11 .. D11); no conditions beyond those of each theorem. -/
import Derived.Test.YtjkkcelnfokplaaGreatDoorAi23
set_option linter.all false
set_option linter.unusedVariables false
set_option linter.unusedSimpArgs false
set_option linter.unnecessarySimpa false
section
namespace Go.Proofs.Tryz.Ai
open Go Go.AI Go.Proofs
set_option maxHeartbeats 8000000
set_option maxRecDepth 4000
set_option linter.unusedVariables false
def exP (p:Ps) (l:List Tok):Except Int Ps:=match wordsB l [119,119] with
 | some [s,v]=>if 200≤p.f.ex.length then .error 14 else stE (fstE [(checkB s v:Int),if p.f.ex.any ((s,v)==·) then 12 else 0]) {p with f:={p.f with ex:=p.f.ex++[(s,v)]}}
 | _=>.error 11
theorem qhu:StOk 180 exP:=by
 intro b sh p l σ hp hl hb
 have hbl:=(List.getElem?_eq_some_iff.1 hb).1
 have hg:=fun c=>qbr hbl c
 unfold exP
 cases hw:wordsB l [119,119] with
 | none =>
  have h1:=form_pan b sh l (by have:=hl.1;omega) [119,119] (by simp) hw σ _ p.line hb rfl
  show pc _ _ _ _
  refine qaa 0 2 rfl Tryz.func180 rfl (by simp[Tryz.ntmps180]) (by kernel_rfl) (by kernel_rfl) ?_
  simp (maxSteps:=4000000) [h1]
 | some ws =>
  obtain⟨s,v,rfl⟩:=qsf hw (by decide)
  have hf:=form_ok b sh l (by have:=hl.1;omega) [119,119] (by simp) _ hw
  have hs:=qp hl hw (s:=s) (by simp)
  have hv:=qp hl hw (s:=v) (by simp)
  have hP:=qc6 s v (by omega) (by omega)
  have hW:=fun b e=>qau b e
  have h2:=fun a b=>qan [a,b] (by simp)
  simp only[List.map_cons,List.map_nil] at hf h2
  obtain⟨pp,hpp⟩:∃e:Int,(checkB s v:Int)=e:=⟨_,rfl⟩
  rw[hpp] at hP
  simp only[hpp,stE]
  have hlq:=hp.le
  obtain⟨⟨m,g,rq,ex,rp,rt⟩,line,blk,ind,md⟩:=p
  simp only[psC] at hb hlq ⊢
  obtain⟨A1,hA1⟩:∃A,slN 41 3 (rq.map rqF)=A:=⟨_,rfl⟩
  rw[hA1] at hb
  have lw1:low σ.length A1:=by rw[← hA1];exact qae _ _ (by simp)
  obtain⟨A3,hA3⟩:∃A,slN 54 4 (rp.map rpF)=A:=⟨_,rfl⟩
  rw[hA3] at hb
  have lw3:low σ.length A3:=by rw[← hA3];exact qae _ _ (by simp)
  obtain⟨A4,hA4⟩:∃A,slN 50 2 (rt.map rtF)=A:=⟨_,rfl⟩
  rw[hA4] at hb
  have lw4:low σ.length A4:=by rw[← hA4];exact qae _ _ (by simp)
  have hCF:=fun σ=>qlb ex (by omega) (s,v) σ
  obtain⟨t,ht⟩:∃t,ex.any ((s,v)==·)=t:=⟨_,rfl⟩
  simp only[ht] at hCF ⊢
  simp only[modAx (s,v)] at hCF
  obtain⟨E,hE⟩:∃E,fstE [pp,if t=true then 12 else 0]=E:=⟨_,rfl⟩
  rw[hE]
  obtain⟨L,hL⟩:∃L,ex.map modA=L:=⟨_,rfl⟩
  have hLl:L.length=ex.length:=by rw[← hL];simp
  have hall:allCells 2 L:=by rw[← hL];simp
  rw[hL] at hb hCF
  by_cases hr:200≤ex.length
  ·rw[if_pos hr]
   show pc _ _ _ _
   have hm:=fun J=>qa6 b sh ex.length hr (σ++J) _ line (qx hb J) rfl
   have hm0:=qa6 b sh ex.length hr σ _ line hb rfl
   rcases q8 52 2 L with ⟨h0,h1⟩|h1
   ·rw[h0] at hLl;simp at hLl;omega
   ·rw[h1] at hb
    refine qaa 2 7 rfl Tryz.func180 rfl (by simp[Tryz.ntmps180]) (by kernel_rfl) (by kernel_rfl) ?_
    simp (maxSteps:=4000000) [-getElem?_pos,-qb,hf]
    refine qg [5] _ (k:=?_)
    repeat (first|refine qd _ (hs:=by simp (maxSteps:=4000000) [-getElem?_pos,hb];exact rfl) (k:=?_)|refine qe _ (k:=?_))
    refine qc ?_
    simp (maxSteps:=4000000) [-getElem?_pos,hb,hLl,hm,hm0]
  ·rw[if_neg hr]
   have hr':ex.length<200:=by omega
   have hR:=qfc b sh ex.length hr'
   have hx:slN 52 2 ((ex++[(s,v)]).map modA)=.sl (.ex 52 2) (L++[.agg [.str s,.str v]]):=by rw[List.map_append,hL];exact qbv _ _ _ _
   have lwL:lowL σ.length L:=by rw[← hL];simp
   have lwx:low σ.length (.agg [.str s,.str v]):=by simp[low,lowL]
   have hR0:ex.length=0→∀σ,ev 233 [.gp b 0 sh,.int .i64 0] σ=some (.tup [],σ):=fun h=>by rw[h] at hR;exact hR
   by_cases he:E=0
   ·rw[if_pos he]
    simp only[hA1,hA3,hA4,hx]
    show ev _ _ _=_
    have hm:=qbq b sh
    have hac:allCells 2 [.agg [.str s,.str v]]:=by simp[allCells,AV.cells]
    have hlm:L.length+1≤most:=by unfold most;omega
    have h1m:1≤most:=by unfold most;omega
    have hsa:=fun x J=>qc7 hbl x J
    have hsa2:=fun y x J=>qd2 hbl y x J
    have hg2:∀(c:List AV) (J:List (List AV)),(σ.set b c++J)[b]? = some c:=fun c J=>qx (hg c) J
    subst he
    rcases q8 52 2 L with ⟨h0,h1⟩|h1
    ·subst h0
     replace hR0:=hR0 (by simpa using hLl.symm)
     rw[h1] at hb
     have hga:=fun J=>qx hb J
     refine qf rfl Tryz.func180 rfl (by simp[Tryz.ntmps180]) (by kernel_rfl) (by kernel_rfl) ?_
     simp (maxSteps:=4000000) [-getElem?_pos,-qb,hf]
     refine qg [5] _ (k:=?_)
     repeat (first|refine qd _ (hs:=by simp (maxSteps:=4000000) [-getElem?_pos,hb];exact rfl) (k:=?_)|refine qe _ (k:=?_))
     refine qc ?_
     simp (maxSteps:=4000000) [-getElem?_pos,-qb,hb,hR0]
     refine qg [] _ (k:=?_)
     repeat (first|refine qd _ (hs:=by simp (maxSteps:=4000000) [-getElem?_pos,hb,hW,h2,hE,hm,hP,hCF];exact rfl) (k:=?_)|refine qe _ (k:=?_))
     refine qc ?_
     simp (maxSteps:=4000000) [-getElem?_pos,-qb]
     refine qg [] _ (k:=?_)
     repeat (first|refine qd _ (hs:=by simp (maxSteps:=4000000) [-getElem?_pos,hb,hga,hg,hsa,hg2,hac,hall,hlm,h1m];exact rfl) (k:=?_)|refine qe _ (k:=?_))
     refine qc ?_
     simp (maxSteps:=4000000) [-getElem?_pos,hsa,hsa2,hg2,hg,take_app,Tryz.results180]
     all_goals rw[qn (qa7 _ _ (by simp[low,lowL,lw1,lw3,lw4,lwL]))]
    ·rw[h1] at hb
     have hga:=fun J=>qx hb J
     refine qf rfl Tryz.func180 rfl (by simp[Tryz.ntmps180]) (by kernel_rfl) (by kernel_rfl) ?_
     simp (maxSteps:=4000000) [-getElem?_pos,-qb,hf]
     refine qg [5] _ (k:=?_)
     repeat (first|refine qd _ (hs:=by simp (maxSteps:=4000000) [-getElem?_pos,hb];exact rfl) (k:=?_)|refine qe _ (k:=?_))
     refine qc ?_
     simp (maxSteps:=4000000) [-getElem?_pos,-qb,hb,hLl,hR]
     refine qg [] _ (k:=?_)
     repeat (first|refine qd _ (hs:=by simp (maxSteps:=4000000) [-getElem?_pos,hb,hW,h2,hE,hm,hP,hCF];exact rfl) (k:=?_)|refine qe _ (k:=?_))
     refine qc ?_
     simp (maxSteps:=4000000) [-getElem?_pos,-qb]
     refine qg [] _ (k:=?_)
     repeat (first|refine qd _ (hs:=by simp (maxSteps:=4000000) [-getElem?_pos,hb,hga,hg,hsa,hg2,hac,hall,hlm,h1m];exact rfl) (k:=?_)|refine qe _ (k:=?_))
     refine qc ?_
     simp (maxSteps:=4000000) [-getElem?_pos,hsa,hsa2,hg2,hg,take_app,Tryz.results180]
     all_goals rw[qn (qa7 _ _ (by simp[low,lowL,lw1,lw3,lw4,lwL]))]
   ·rw[if_neg he]
    show pc _ _ _ _
    have hm:=fun J=>qab b sh (σ++J) _ line _ (qx hb J) rfl he
    have hm0:=qab b sh σ _ line _ hb rfl he
    rcases q8 52 2 L with ⟨h0,h1⟩|h1
    ·subst h0
     replace hR0:=hR0 (by simpa using hLl.symm)
     rw[h1] at hb
     refine qaa 3 13 rfl Tryz.func180 rfl (by simp[Tryz.ntmps180]) (by kernel_rfl) (by kernel_rfl) ?_
     simp (maxSteps:=4000000) [-getElem?_pos,-qb,hf]
     refine qg [5] _ (k:=?_)
     repeat (first|refine qd _ (hs:=by simp (maxSteps:=4000000) [-getElem?_pos,hb];exact rfl) (k:=?_)|refine qe _ (k:=?_))
     refine qc ?_
     simp (maxSteps:=4000000) [-getElem?_pos,-qb,hb,hR0]
     refine qal [] _ _ (by kernel_rfl) (by rfl) (by rfl) (by simp (maxSteps:=4000000) [];exact rfl) (by simp only[List.length_cons,List.length_nil,Nat.reduceAdd,Nat.reduceSub,List.take_succ_cons,List.take_zero];exact rfl) ?_
     repeat (first|refine qd _ (hs:=by simp (maxSteps:=4000000) [-getElem?_pos,hb,hW,h2,hE,hP,hCF];exact rfl) (k:=?_)|refine qe _ (k:=?_))
     refine qc ?_
     simp (maxSteps:=4000000) [hm,hm0]
    ·rw[h1] at hb
     refine qaa 3 13 rfl Tryz.func180 rfl (by simp[Tryz.ntmps180]) (by kernel_rfl) (by kernel_rfl) ?_
     simp (maxSteps:=4000000) [-getElem?_pos,-qb,hf]
     refine qg [5] _ (k:=?_)
     repeat (first|refine qd _ (hs:=by simp (maxSteps:=4000000) [-getElem?_pos,hb];exact rfl) (k:=?_)|refine qe _ (k:=?_))
     refine qc ?_
     simp (maxSteps:=4000000) [-getElem?_pos,-qb,hb,hLl,hR]
     refine qal [] _ _ (by kernel_rfl) (by rfl) (by rfl) (by simp (maxSteps:=4000000) [];exact rfl) (by simp only[List.length_cons,List.length_nil,Nat.reduceAdd,Nat.reduceSub,List.take_succ_cons,List.take_zero];exact rfl) ?_
     repeat (first|refine qd _ (hs:=by simp (maxSteps:=4000000) [-getElem?_pos,hb,hW,h2,hE,hP,hCF];exact rfl) (k:=?_)|refine qe _ (k:=?_))
     refine qc ?_
     simp (maxSteps:=4000000) [hm,hm0]
end Go.Proofs.Tryz.Ai
end
