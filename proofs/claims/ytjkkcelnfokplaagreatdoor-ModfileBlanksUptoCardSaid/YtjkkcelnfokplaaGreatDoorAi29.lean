/- Part 29 of a proof: a Go function is evaluated on abstract values (texts D15 .. D15); no conditions beyond those of each theorem. -/
import Derived.Test.YtjkkcelnfokplaaGreatDoorAi27
import Derived.Test.YtjkkcelnfokplaaGreatDoorAi28
set_option linter.all false
set_option linter.unusedVariables false
set_option linter.unusedSimpArgs false
set_option linter.unnecessarySimpa false
section
namespace Go.Proofs.Tryz.Ai
open Go Go.AI Go.Proofs
set_option maxHeartbeats 8000000
set_option maxRecDepth 4000
set_option linter.unusedVariables false
@[simp] theorem qsj {P:Program} {c:Bool} {t:TypeId} {u v}:bin P .eql c t (.fb u v) .nilf=if isFuncT P t then some (.bool false) else none:=rfl
theorem lowPs (p:Ps) (n:Nat):lowL n (psC p):=by
 unfold psC
 refine⟨trivial,trivial,qae _ _ (by simp),qae _ _ (by simp),qae _ _ (by simp),qae _ _ (by simp),trivial,trivial,trivial,trivial,trivial⟩
def trP (c:List UInt8):Bool:=Lib.trimS c [32,9]==indW
def lineP (p:Ps):List Tok→Except Int Ps
 | []=>.ok p
 | t::r=>if p.blk≠[] then (if kindsB (t::r) [41] then .ok {p with blk:=[]} else match stmG p.blk with
   | some q=>q.2 p (t::r)
   | none=>.error 11)
  else match stmG t.2 with
   | none=>.error 11
   | some q=>if kindsB r [40]=true∧t.2≠mdW∧t.2≠goW then .ok {p with blk:=t.2} else q.2 p r
def readP (p:Ps) (s:List UInt8):Except Int Ps :=
 if 1000<s.length then .error 13 else match tokB (Lib.cut s [47,47]).1 with
  | none=>.error 11
  | some l=>lineP {p with line:=p.line+1,ind:=trP (Lib.cut s [47,47]).2.1} l
theorem qd3 (s m:List UInt8):(Lib.cut s m).1.length≤s.length∧(Lib.cut s m).2.1.length≤s.length:=by
 unfold Lib.cut
 split
 ·exact⟨by simp;omega,by simp⟩
 ·exact⟨Nat.le_refl _,by simp⟩
theorem qmt (l:List Tok) (k:List UInt8):(wordsB l k).isSome=kindsB l k:=by unfold wordsB;cases kindsB l k<;>rfl
theorem qmu (b:Nat) (sh:Option (TypeId×Nat)) (p:Ps) (s:List UInt8) (σ:List (List AV)) (hf:MfB p.f) (h0:0≤p.line) (h1:p.line≤2^40) (hs:s.length≤2^28) (hk:p.blk≠[]→stmG p.blk≠none) (hb:σ[b]? = some (psC p)) :
  match readP p s with
  | .ok q=>ev 34 [.gp b 0 sh,.str s] σ=some (.tup [],σ.set b (psC q))
  | .error e=>pc 34 [.gp b 0 sh,.str s] σ (fltV (p.line+1) e):=by
 have hbl:=(List.getElem?_eq_some_iff.1 hb).1
 have hg:=fun c=>qbr hbl c
 have hW:=fun b e=>qau b e
 have w1:IntKind.i64.wrap (p.line+1)=p.line+1:=qh (by omega)
 have hm:=qbq b sh
 obtain⟨A,hA⟩:∃A,psC {p with line:=p.line+1}=A:=⟨_,rfl⟩
 have hC:∀σ,ev 33 [.str s,.str [47,47]] σ=some (.tup [.str (Lib.cut s [47,47]).1,.str (Lib.cut s [47,47]).2.1,.bool (Lib.cut s [47,47]).2.2],σ):=fun σ=>by rw[qk6];exact qn (by omega)
 obtain⟨q1,q2⟩:=qd3 s [47,47]
 unfold readP trP
 obtain⟨⟨c1,c2,c3⟩,hc⟩:∃c,Lib.cut s [47,47]=c:=⟨_,rfl⟩
 simp only[hc] at hC q1 q2 ⊢
 have hTr:∀σ,ev 113 [.str c2,.str [32,9]] σ=some (.str (Lib.trimS c2 [32,9]),σ):=fun σ=>by rw[qzc];exact qn ⟨by omega,by simp,by decide⟩
 obtain⟨tr,htr⟩:∃tr,Lib.trimS c2 [32,9]=tr:=⟨_,rfl⟩
 rw[htr] at hTr ⊢
 obtain⟨iv,hiv⟩:∃iv,(tr==indW)=iv:=⟨_,rfl⟩
 have hiv':(tr==[105,110,100,105,114,101,99,116])=iv:=hiv
 rw[hiv]
 by_cases hlen:1000<s.length
 ·rw[if_pos hlen]
  have hp:=qab b sh (σ.set b (psC {p with line:=p.line+1})) _ (p.line+1) 13 (hg _) rfl (by decide)
  obtain⟨⟨m,g,rq,ex,rp,rt⟩,line,blk,ind,md⟩:=p
  simp only[psC] at hb hp w1 ⊢
  show pc _ _ _ _
  refine qaa 1 5 rfl Tryz.func34 rfl (by simp[Tryz.ntmps34]) (by kernel_rfl) (by kernel_rfl) ?_
  simp (maxSteps:=4000000) [-getElem?_pos,hb,hg,hW,w1,hlen,hp]
 ·rw[if_neg hlen]
  cases htk:tokB c1 with
  | none =>
   have hp:=tokens_pan b sh c1 (by omega) htk (σ.set b (psC {p with line:=p.line+1,ind:=iv})) _ (p.line+1) (hg _) rfl
   obtain⟨⟨m,g,rq,ex,rp,rt⟩,line,blk,ind,md⟩:=p
   simp only[psC] at hb hp w1 ⊢
   show pc _ _ _ _
   refine qaa 4 2 rfl Tryz.func34 rfl (by simp[Tryz.ntmps34]) (by kernel_rfl) (by kernel_rfl) ?_
   simp (maxSteps:=4000000) [-getElem?_pos,hb,hg,hW,hm,w1,hlen,hC,hTr,hiv',hp]
  | some l =>
   have hT:=tokens_ok b sh c1 (by omega) l htk
   have htb:=tokB_tk (by omega) htk
   cases l with
   | nil =>
    simp only[lineP]
    obtain⟨⟨m,g,rq,ex,rp,rt⟩,line,blk,ind,md⟩:=p
    simp only[psC,List.map_nil] at hb hT w1 ⊢
    have hlo:=lowPs ⟨⟨m,g,rq,ex,rp,rt⟩,line+1,blk,iv,md⟩ σ.length
    simp only[psC] at hlo
    refine qf rfl Tryz.func34 rfl (by simp[Tryz.ntmps34]) (by kernel_rfl) (by kernel_rfl) ?_
    simp (maxSteps:=4000000) [-getElem?_pos,hb,hg,hW,hm,w1,hlen,hC,hTr,hiv',hT,Tryz.results34]
    rw[qn (qg6 _ hlo)]
   | cons t r =>
    have htbr:TkB r:=⟨by have:=htb.1;simp at this;omega,fun x hx=>htb.2 x (List.mem_cons_of_mem _ hx)⟩
    have hw41:=qd0 (t::r) (by have:=htb.1;omega) [41] (by simp)
    have hw40:=qd0 r (by have:=htbr.1;omega) [40] (by simp)
    simp only[wordsAV,qmt] at hw41 hw40
    obtain⟨k41,hk41⟩:∃k,kindsB (t::r) [41]=k:=⟨_,rfl⟩
    obtain⟨k40,hk40⟩:∃k,kindsB r [40]=k:=⟨_,rfl⟩
    obtain⟨W41,hW41⟩:∃W,((wordsB (t::r) [41]).getD []).map AV.str=W:=⟨_,rfl⟩
    obtain⟨W40,hW40⟩:∃W,((wordsB r [40]).getD []).map AV.str=W:=⟨_,rfl⟩
    rw[hk41,hW41] at hw41
    rw[hk40,hW40] at hw40
    have hL:=fun w=>qwb b sh w
    have hS:=fun σ=>q2t b sh σ
    have hl0:¬((r.length:Int)+1=0):=by omega
    simp only[lineP,hk41,hk40]
    by_cases hblk:p.blk=[]
    ·rw[if_neg (by simpa using hblk)]
     cases hq:stmG t.2 with
     | none =>
      simp only
      have hp:=qab b sh (σ.set b (psC {p with line:=p.line+1,ind:=iv})) _ (p.line+1) 11 (hg _) rfl (by decide)
      have hL2:=hL t.2
      rw[hq] at hL2
      obtain⟨t1,t2⟩:=t
      obtain⟨⟨m,g,rq,ex,rp,rt⟩,line,blk,ind,md⟩:=p
      simp only at hblk
      subst hblk
      simp only[psC,List.map_cons,tkFx] at hb hT hw41 hp hL2 w1 ⊢
      show pc _ _ _ _
      refine qaa 12 4 rfl Tryz.func34 rfl (by simp[Tryz.ntmps34]) (by kernel_rfl) (by kernel_rfl) ?_
      simp (maxSteps:=4000000) [-getElem?_pos,-qb,hb,hg,hW,hm,w1,hlen,hC,hTr,hiv',hT,hl0]
      refine qg [] _ (k:=?_)
      repeat (first|refine qd _ (hs:=by simp (maxSteps:=4000000) [-getElem?_pos,hS,hL2];exact rfl) (k:=?_)|refine qe _ (k:=?_))
      refine qc ?_
      simp (maxSteps:=4000000) [-getElem?_pos,hW,hp]
     | some q =>
      obtain⟨g0,R⟩:=q
      obtain⟨hst,hgl⟩:=qsi hq
      have hst:=hst b sh {p with line:=p.line+1,ind:=iv} r (σ.set b (psC {p with line:=p.line+1,ind:=iv})) hf htbr (hg _)
      have hL2:=hL t.2
      rw[hq] at hL2
      simp only at hL2 ⊢
      by_cases hbg:k40=true∧t.2≠mdW∧t.2≠goW
      ·rw[if_pos hbg]
       obtain⟨rfl,hn1,hn2⟩:=hbg
       obtain⟨t1,t2⟩:=t
       have hn1':(t2==[109,111,100,117,108,101])=false:=by simpa[mdW] using hn1
       have hn2':(t2==[103,111])=false:=by simpa[goW] using hn2
       replace hn1:¬t2=[109,111,100,117,108,101]:=hn1
       replace hn2:¬t2=[103,111]:=hn2
       obtain⟨⟨m,g,rq,ex,rp,rt⟩,line,blk,ind,md⟩:=p
       simp only at hblk
       subst hblk
       simp only[psC,List.map_cons,tkFx] at hb hT hw41 hL2 w1 ⊢
       clear hst
       have hlo:=lowPs ⟨⟨m,g,rq,ex,rp,rt⟩,line+1,t2,iv,md⟩ σ.length
       simp only[psC] at hlo
       refine qf rfl Tryz.func34 rfl (by simp[Tryz.ntmps34]) (by kernel_rfl) (by kernel_rfl) ?_
       simp (maxSteps:=4000000) [-getElem?_pos,-qb,hb,hg,hW,hm,w1,hlen,hC,hTr,hiv',hT,hl0]
       refine qg [] _ (k:=?_)
       repeat (first|refine qd _ (hs:=by simp (maxSteps:=4000000) [-getElem?_pos,hS,hL2];exact rfl) (k:=?_)|refine qe _ (k:=?_))
       refine qc ?_
       simp (maxSteps:=4000000) [-getElem?_pos,hW,hm,hg,hw40,hn1,hn2,hn1',hn2',Tryz.results34]
       rw[qn (qg6 _ hlo)]
      ·rw[if_neg hbg]
       have hcs:(k40=false)∨(k40=true∧t.2=mdW)∨(k40=true∧t.2=goW):=by
        cases k40 with
        | false=>exact .inl rfl
        | true =>
         by_cases e1:t.2=mdW
         ·exact .inr (.inl ⟨rfl,e1⟩)
         ·by_cases e2:t.2=goW
          ·exact .inr (.inr ⟨rfl,e2⟩)
          ·exact absurd ⟨rfl,e1,e2⟩ hbg
       cases hR:R {p with line:=p.line+1,ind:=iv} r with
       | ok q3 =>
        rw[hR] at hst
        simp only at hst ⊢
        have hlo:=lowPs q3 σ.length
        obtain⟨Z,hZ⟩:∃Z,psC q3=Z:=⟨_,rfl⟩
        rw[hZ] at hst hlo ⊢
        obtain⟨t1,t2⟩:=t
        obtain⟨⟨m,g,rq,ex,rp,rt⟩,line,blk,ind,md⟩:=p
        simp only at hblk
        subst hblk
        simp only[psC,List.map_cons,tkFx,List.set_set] at hb hT hw41 hL2 hst w1 ⊢
        rcases hcs with rfl|⟨rfl,rfl⟩|⟨rfl,rfl⟩
        all_goals
         refine qf rfl Tryz.func34 rfl (by simp[Tryz.ntmps34]) (by kernel_rfl) (by kernel_rfl) ?_
         simp (maxSteps:=4000000) [-getElem?_pos,-qb,hb,hg,hW,hm,w1,hlen,hC,hTr,hiv',hT,hl0]
         refine qg [] _ (k:=?_)
         repeat (first|refine qd _ (hs:=by simp (maxSteps:=4000000) [-getElem?_pos,hS,hL2];exact rfl) (k:=?_)|refine qe _ (k:=?_))
         refine qc ?_
         simp (maxSteps:=4000000) [-getElem?_pos,hW,hm,hg,hw40,hst,hgl,mdW,goW,Tryz.results34]
         rw[qn (qg6 _ hlo)]
       | error e =>
        rw[hR] at hst
        simp only at hst ⊢
        obtain⟨t1,t2⟩:=t
        obtain⟨⟨m,g,rq,ex,rp,rt⟩,line,blk,ind,md⟩:=p
        simp only at hblk
        subst hblk
        simp only[psC,List.map_cons,tkFx,List.set_set] at hb hT hw41 hL2 hst w1 ⊢
        show pc _ _ _ _
        rcases hcs with rfl|⟨rfl,rfl⟩|⟨rfl,rfl⟩
        all_goals
         refine qaa 16 3 rfl Tryz.func34 rfl (by simp[Tryz.ntmps34]) (by kernel_rfl) (by kernel_rfl) ?_
         simp (maxSteps:=4000000) [-getElem?_pos,-qb,hb,hg,hW,hm,w1,hlen,hC,hTr,hiv',hT,hl0]
         refine qg [] _ (k:=?_)
         repeat (first|refine qd _ (hs:=by simp (maxSteps:=4000000) [-getElem?_pos,hS,hL2];exact rfl) (k:=?_)|refine qe _ (k:=?_))
         refine qc ?_
         simp (maxSteps:=4000000) [-getElem?_pos,hW,hm,hg,hw40,hst,hgl,mdW,goW]
    ·rw[if_pos hblk]
     cases k41 with
     | true =>
      rw[if_pos rfl]
      obtain⟨t1,t2⟩:=t
      obtain⟨⟨m,g,rq,ex,rp,rt⟩,line,blk,ind,md⟩:=p
      simp only at hblk
      have hblk':(blk==[])=false:=by simpa using hblk
      simp only[psC,List.map_cons,tkFx] at hb hT hw41 w1 ⊢
      have hlo:=lowPs ⟨⟨m,g,rq,ex,rp,rt⟩,line+1,[],iv,md⟩ σ.length
      simp only[psC] at hlo
      refine qf rfl Tryz.func34 rfl (by simp[Tryz.ntmps34]) (by kernel_rfl) (by kernel_rfl) ?_
      simp (maxSteps:=4000000) [-getElem?_pos,-qb,hb,hg,hW,hm,w1,hlen,hC,hTr,hiv',hT,hl0,hblk,hblk',hw41,Tryz.results34]
      rw[qn (qg6 _ hlo)]
     | false =>
      rw[if_neg (by simp)]
      cases hq:stmG p.blk with
      | none=>exact absurd hq (hk hblk)
      | some q =>
       obtain⟨g0,R⟩:=q
       obtain⟨hst,hgl⟩:=qsi hq
       have hst:=hst b sh {p with line:=p.line+1,ind:=iv} (t::r) (σ.set b (psC {p with line:=p.line+1,ind:=iv})) hf htb (hg _)
       have hL2:=hL p.blk
       rw[hq] at hL2
       simp only at hL2 ⊢
       cases hR:R {p with line:=p.line+1,ind:=iv} (t::r) with
       | ok q3 =>
        rw[hR] at hst
        simp only at hst ⊢
        have hlo:=lowPs q3 σ.length
        obtain⟨Z,hZ⟩:∃Z,psC q3=Z:=⟨_,rfl⟩
        rw[hZ] at hst hlo ⊢
        obtain⟨t1,t2⟩:=t
        obtain⟨⟨m,g,rq,ex,rp,rt⟩,line,blk,ind,md⟩:=p
        simp only at hblk
        have hblk':(blk==[])=false:=by simpa using hblk
        simp only[psC,List.map_cons,tkFx,List.set_set] at hb hT hw41 hL2 hst w1 ⊢
        refine qf rfl Tryz.func34 rfl (by simp[Tryz.ntmps34]) (by kernel_rfl) (by kernel_rfl) ?_
        simp (maxSteps:=4000000) [-getElem?_pos,-qb,hb,hg,hW,hm,w1,hlen,hC,hTr,hiv',hT,hl0,hblk,hblk',hw41]
        refine qg [] _ (k:=?_)
        repeat (first|refine qd _ (hs:=by simp (maxSteps:=4000000) [-getElem?_pos,hS,hL2,hg,hst,hgl];exact rfl) (k:=?_)|refine qe _ (k:=?_))
        refine qc ?_
        simp (maxSteps:=4000000) [-getElem?_pos,Tryz.results34]
        rw[qn (qg6 _ hlo)]
       | error e =>
        rw[hR] at hst
        simp only at hst ⊢
        obtain⟨t1,t2⟩:=t
        obtain⟨⟨m,g,rq,ex,rp,rt⟩,line,blk,ind,md⟩:=p
        simp only at hblk
        have hblk':(blk==[])=false:=by simpa using hblk
        simp only[psC,List.map_cons,tkFx,List.set_set] at hb hT hw41 hL2 hst w1 ⊢
        show pc _ _ _ _
        refine qaa 10 8 rfl Tryz.func34 rfl (by simp[Tryz.ntmps34]) (by kernel_rfl) (by kernel_rfl) ?_
        simp (maxSteps:=4000000) [-getElem?_pos,-qb,hb,hg,hW,hm,w1,hlen,hC,hTr,hiv',hT,hl0,hblk,hblk',hw41]
        refine qal [] _ _ (by kernel_rfl) (by rfl) (by rfl) (by simp (maxSteps:=4000000) [];exact rfl) (by simp only[List.length_cons,List.length_nil,Nat.reduceAdd,Nat.reduceSub,List.take_succ_cons,List.take_zero];exact rfl) ?_
        repeat (first|refine qd _ (hs:=by simp (maxSteps:=4000000) [-getElem?_pos,hS,hL2,hg];exact rfl) (k:=?_)|refine qe _ (k:=?_))
        refine qc ?_
        simp (maxSteps:=4000000) [hst,hgl]
end Go.Proofs.Tryz.Ai
end
