/- Part 31 of a proof: Go functions are evaluated on abstract values; no conditions beyond those of each theorem. -/
import Derived.Test.YtjkkcelnfokplaaGreatDoorFi30
set_option linter.all false
set_option maxHeartbeats 16000000
set_option maxRecDepth 4000
section
namespace Go.Proofs.Tryz.Ai
open Go Go.AI Go.Proofs
@[simp] theorem qr0 {P:Program} {c:Bool} {t:TypeId} {u v}:bin P .eql c t (.fb u v) .nilf=if isFuncT P t then some (.bool false) else none:=rfl
theorem lowPs (p:Ps) (n:Nat):lowL n (psC p):=by
 unfold psC
 refine⟨trivial,trivial,qb9 _ _ (by simp),qb9 _ _ (by simp),qb9 _ _ (by simp),qb9 _ _ (by simp),trivial,trivial,trivial,trivial,trivial⟩
def trP (c:List UInt8):Bool:=Lib.trimS c [32,9]==indW
def lineP (p:Ps):List Tok→Except Int Ps
 | []=>.ok p
 | t::r=>if p.blk≠[] then (if kindsB (t::r) [41] then .ok {p with blk:=[]} else match stmG p.blk with
   | some q=>q.2 p (t::r)
   | none=>.error 11)
  else match stmG t.2 with
   | none=>.error 11
   | some q=>if kindsB r [40]=true∧t.2≠mdW∧t.2≠goW then .ok {p with blk:=t.2} else q.2 p r
def readP (p:Ps) (s:List UInt8):Except Int Ps :=
 if 1000<s.length then .error 13 else match tokB (Lib.cut s [47,47]).1 with
  | none=>.error 11
  | some l=>lineP {p with line:=p.line+1,ind:=trP (Lib.cut s [47,47]).2.1} l
theorem qet (s m:List UInt8):(Lib.cut s m).1.length≤s.length∧(Lib.cut s m).2.1.length≤s.length:=by
 unfold Lib.cut
 split
 ·exact⟨by simp;omega,by simp⟩
 ·exact⟨Nat.le_refl _,by simp⟩
theorem qmj (l:List Tok) (k:List UInt8):(wordsB l k).isSome=kindsB l k:=by unfold wordsB;cases kindsB l k<;>rfl
theorem qr1 (b:Nat) (sh:Option (TypeId×Nat)) (p:Ps) (s:List UInt8) (σ:List (List AV)) (hf:MfB p.f) (h0:0≤p.line) (h1:p.line≤2^40) (hs:s.length≤2^28) (hk:p.blk=[]) (hsm:smpL s=true) (hb:σ[b]? = some (psC p)) :
  match readP p s with
  | .ok q=>ev 34 [.gp b 0 sh,.str s] σ=some (.tup [],σ.set b (psC q))
  | .error e=>pc 34 [.gp b 0 sh,.str s] σ (fltV (p.line+1) e):=by
 have hbl:=(List.getElem?_eq_some_iff.1 hb).1
 have hg:=fun c=>qdi hbl c
 have hW:=fun b e=>qa8 b e
 have w1:IntKind.i64.wrap (p.line+1)=p.line+1:=qh (by omega)
 have hm:=qe9 b sh
 obtain⟨A,hA⟩:∃A,psC {p with line:=p.line+1}=A:=⟨_,rfl⟩
 have hC:∀σ,ev 33 [.str s,.str [47,47]] σ=some (.tup [.str (Lib.cut s [47,47]).1,.str (Lib.cut s [47,47]).2.1,.bool (Lib.cut s [47,47]).2.2],σ):=fun σ=>by rw[qnl];exact qo (by omega)
 obtain⟨q1,q2⟩:=qet s [47,47]
 unfold smpL at hsm
 unfold readP trP
 obtain⟨⟨c1,c2,c3⟩,hc⟩:∃c,Lib.cut s [47,47]=c:=⟨_,rfl⟩
 simp only[hc] at hC q1 q2 hsm ⊢
 have hTr:∀σ,ev 113 [.str c2,.str [32,9]] σ=some (.str (Lib.trimS c2 [32,9]),σ):=fun σ=>by rw[qya];exact qo ⟨by omega,by simp,by decide⟩
 obtain⟨tr,htr⟩:∃tr,Lib.trimS c2 [32,9]=tr:=⟨_,rfl⟩
 rw[htr] at hTr ⊢
 obtain⟨iv,hiv⟩:∃iv,(tr==indW)=iv:=⟨_,rfl⟩
 have hiv':(tr==[105,110,100,105,114,101,99,116])=iv:=hiv
 rw[hiv]
 by_cases hlen:1000<s.length
 ·rw[if_pos hlen]
  have hp:=qba b sh (σ.set b (psC {p with line:=p.line+1})) _ (p.line+1) 13 (hg _) rfl (by decide)
  obtain⟨⟨m,g,rq,ex,rp,rt⟩,line,blk,ind,md⟩:=p
  simp only[psC] at hb hp w1 ⊢
  show pc _ _ _ _
  refine qbv 1 5 rfl func34 rfl (by simp[ntmps34]) (by kernel_rfl) (by kernel_rfl) ?_
  simp (maxSteps:=mS) [-getElem?_pos,hb,hg,hW,w1,hlen,hp]
 ·rw[if_neg hlen]
  cases htk:tokB c1 with
  | none =>
   rw[htk] at hsm;cases hsm
  | some l =>
   have hT:=tokens_ok b sh c1 (by omega) l htk
   have htb:=tokB_tk (by omega) htk
   rw[htk] at hsm
   simp only at hsm
   cases l with
   | nil =>
    simp only[lineP]
    obtain⟨⟨m,g,rq,ex,rp,rt⟩,line,blk,ind,md⟩:=p
    simp only[psC,List.map_nil] at hb hT w1 ⊢
    have hlo:=lowPs ⟨⟨m,g,rq,ex,rp,rt⟩,line+1,blk,iv,md⟩ σ.length
    simp only[psC] at hlo
    refine qk func34 ntmps34 ?_
    simp (maxSteps:=mS) [-getElem?_pos,hb,hg,hW,hm,w1,hlen,hC,hTr,hiv',hT,results34]
    rw[qo (qrx _ hlo)]
   | cons t r =>
    have htbr:TkB r:=⟨by have:=htb.1;simp at this;omega,fun x hx=>htb.2 x (List.mem_cons_of_mem _ hx)⟩
    have hw41:=qfw (t::r) (by have:=htb.1;omega) [41] (by simp)
    have hw40:=qfw r (by have:=htbr.1;omega) [40] (by simp)
    simp only[wordsAV,qmj] at hw41 hw40
    obtain⟨k41,hk41⟩:∃k,kindsB (t::r) [41]=k:=⟨_,rfl⟩
    obtain⟨k40,hk40⟩:∃k,kindsB r [40]=k:=⟨_,rfl⟩
    obtain⟨W41,hW41⟩:∃W,((wordsB (t::r) [41]).getD []).map AV.str=W:=⟨_,rfl⟩
    obtain⟨W40,hW40⟩:∃W,((wordsB r [40]).getD []).map AV.str=W:=⟨_,rfl⟩
    rw[hk41,hW41] at hw41
    rw[hk40,hW40] at hw40
    have hL:=fun w=>qvh b sh w
    have hS:=fun σ=>q1d b sh σ
    have hl0:¬((r.length:Int)+1=0):=by omega
    simp only[lineP,hk41,hk40]
    have hblk:=hk
    rw[if_neg (by simpa using hblk)]
    obtain⟨hz40,g0,R,hq,hst,hgl,_⟩:=qrz hsm
    rw[hk40] at hz40
    subst hz40
    have hst:=hst b sh {p with line:=p.line+1,ind:=iv} r (σ.set b (psC {p with line:=p.line+1,ind:=iv})) hf htbr (hg _)
    have hL2:=hL t.2
    rw[hq] at hL2
    simp only[hq] at hL2 ⊢
    rw[if_neg (by simp)]
    cases hR:R {p with line:=p.line+1,ind:=iv} r with
    | ok q3 =>
     rw[hR] at hst
     simp only at hst ⊢
     have hlo:=lowPs q3 σ.length
     obtain⟨Z,hZ⟩:∃Z,psC q3=Z:=⟨_,rfl⟩
     rw[hZ] at hst hlo ⊢
     obtain⟨t1,t2⟩:=t
     obtain⟨⟨m,g,rq,ex,rp,rt⟩,line,blk,ind,md⟩:=p
     simp only at hblk
     subst hblk
     simp only[psC,List.map_cons,tkFx,List.set_set] at hb hT hw41 hL2 hst w1 ⊢
     skip
     all_goals
      refine qk func34 ntmps34 ?_
      simp (maxSteps:=mS) [-getElem?_pos,-qb,hb,hg,hW,hm,w1,hlen,hC,hTr,hiv',hT,hl0]
      refine qg [] _ (k:=?_)
      repeat (first|refine qd _ (hs:=by simp (maxSteps:=mS) [-getElem?_pos,hS,hL2];exact rfl) (k:=?_)|refine qe _ (k:=?_))
      refine qc ?_
      simp (maxSteps:=mS) [-getElem?_pos,hW,hm,hg,hw40,hst,hgl,mdW,goW,results34]
      rw[qo (qrx _ hlo)]
    | error e =>
     rw[hR] at hst
     simp only at hst ⊢
     obtain⟨t1,t2⟩:=t
     obtain⟨⟨m,g,rq,ex,rp,rt⟩,line,blk,ind,md⟩:=p
     simp only at hblk
     subst hblk
     simp only[psC,List.map_cons,tkFx,List.set_set] at hb hT hw41 hL2 hst w1 ⊢
     show pc _ _ _ _
     skip
     all_goals
      refine qbv 16 3 rfl func34 rfl (by simp[ntmps34]) (by kernel_rfl) (by kernel_rfl) ?_
      simp (maxSteps:=mS) [-getElem?_pos,-qb,hb,hg,hW,hm,w1,hlen,hC,hTr,hiv',hT,hl0]
      refine qg [] _ (k:=?_)
      repeat (first|refine qd _ (hs:=by simp (maxSteps:=mS) [-getElem?_pos,hS,hL2];exact rfl) (k:=?_)|refine qe _ (k:=?_))
      refine qc ?_
      simp (maxSteps:=mS) [-getElem?_pos,hW,hm,hg,hw40,hst,hgl,mdW,goW]
end Go.Proofs.Tryz.Ai
end
