/- Part 30 of a proof: Go functions are evaluated on abstract values; no conditions beyond those of each theorem. -/
import Derived.Test.YtjkkcelnfokplaaGreatDoorFi29
set_option linter.all false
set_option maxHeartbeats 16000000
set_option maxRecDepth 4000
section
namespace Go.Proofs.Tryz.Ai
open Go Go.AI Go.Proofs
theorem tokF_len:∀(n:Nat) (s:List UInt8) (l:List Tok),tokF n s=some l→l.length≤s.length∧∀t∈l,t.2.length≤s.length
 | 0,_,_,h=>by cases h
 | _+1,[],l,h=>by simp only[tokF,Option.some.injEq] at h;subst h;simp
 | n+1,c::r,l,h=>by
  simp only[tokF] at h
  split at h
  ·obtain⟨h1,h2⟩:=tokF_len n r l h
   exact⟨by simp;omega,fun t ht=>by have:=h2 t ht;simp;omega⟩
  ·split at h
   ·cases hr:tokF n r with
    | none=>rw[hr] at h;cases h
    | some l' =>
     rw[hr] at h
     simp only[Option.map_some,Option.some.injEq] at h
     subst h
     obtain⟨h1,h2⟩:=tokF_len n r l' hr
     refine⟨by simp;omega,fun t ht=>?_⟩
     rcases List.mem_cons.1 ht with rfl|ht
     ·simp
     ·have:=h2 t ht;simp;omega
   ·split at h
    ·rename_i hw
     cases hr:tokF n ((c::r).dropWhile isWd) with
     | none=>rw[hr] at h;cases h
     | some l' =>
      rw[hr] at h
      simp only[Option.map_some,Option.some.injEq] at h
      subst h
      obtain⟨h1,h2⟩:=tokF_len n _ l' hr
      have hd:((c::r).dropWhile isWd).length≤r.length:=by rw[List.dropWhile_cons,if_pos hw];exact qbm r
      refine⟨by simp only[List.length_cons];omega,fun t ht=>?_⟩
      rcases List.mem_cons.1 ht with rfl|ht
      ·unfold tkW
       split
       ·simp
       ·exact (List.takeWhile_prefix isWd).length_le
      ·have:=h2 t ht;simp only[List.length_cons];omega
    ·cases h
theorem tokB_tk {s:List UInt8} {l:List Tok} (hs:s.length≤2^28) (h:tokB s=some l):TkB l:=by
 obtain⟨h1,h2⟩:=tokF_len _ _ _ h
 exact⟨by omega,fun t ht=>by have:=h2 t ht;omega⟩
def mdW:List UInt8:=[109,111,100,117,108,101]
def goW:List UInt8:=[103,111]
def indW:List UInt8:=[105,110,100,105,114,101,99,116]
def stmG (w:List UInt8):Option (FuncId×(Ps→List Tok→Except Int Ps)) :=
 if w=mdW then some (177,mdP) else if w=goW then some (178,goP)
 else if w=[114,101,113,117,105,114,101] then some (179,rqP) else if w=[101,120,99,108,117,100,101] then some (180,exP)
 else if w=[114,101,112,108,97,99,101] then some (181,rpP) else if w=[114,101,116,114,97,99,116] then some (182,rtP) else none
theorem qry (f:FuncId→AV) (w:List UInt8):mpGet stmN (stmF.map f) w=(stmG w).map fun q=>f q.1:=by
 by_cases e1:w=mdW
 ·subst e1;rfl
 by_cases e2:w=goW
 ·subst e2;rfl
 by_cases e3:w=[114,101,113,117,105,114,101]
 ·subst e3;rfl
 by_cases e4:w=[101,120,99,108,117,100,101]
 ·subst e4;rfl
 by_cases e5:w=[114,101,112,108,97,99,101]
 ·subst e5;rfl
 by_cases e6:w=[114,101,116,114,97,99,116]
 ·subst e6;rfl
 have hs:stmG w=none:=by unfold stmG;rw[if_neg e1,if_neg e2,if_neg e3,if_neg e4,if_neg e5,if_neg e6]
 rw[hs]
 unfold mdW at e1
 unfold goW at e2
 simp[stmN,stmF,mpGet,e1,e2,e3,e4,e5,e6]
def rqW4:List UInt8:=[114,101,113,117,105,114,101]
def smpT:List Tok→Bool
 | []=>true
 | t::r=>(t.2==mdW||t.2==rqW4)&&!kindsB r [40]
def smpL (s:List UInt8):Bool:=match tokB (Lib.cut s [47,47]).1 with
 | some l=>smpT l
 | none=>false
theorem qrz {t:Tok} {r:List Tok} (h:smpT (t::r)=true):kindsB r [40]=false∧∃g R,stmG t.2=some (g,R)∧StOk g R∧g<100000∧(R=mdP∨R=rqP):=by
 simp only[smpT,Bool.and_eq_true,Bool.not_eq_true',Bool.or_eq_true,beq_iff_eq] at h
 refine⟨h.2,?_⟩
 rcases h.1 with e|e<;>rw[e]
 ·exact⟨_,_,rfl,qjk,by decide,.inl rfl⟩
 ·exact⟨_,_,rfl,qhq,by decide,.inr rfl⟩
def stmM (b:Nat) (sh:Option (TypeId×Nat)):List AV:=stmF.map fun f=>.fb f [.gp b 0 sh]
theorem qvh (b:Nat) (sh:Option (TypeId×Nat)) (w:List UInt8):lookA prog 184 (.mp stmN (stmM b sh)) (.str w)=some (match stmG w with
  | some q=>.fb q.1 [.gp b 0 sh]
  | none=>.nilf):=by
 have hu:prog.underlying 184=some (.map 9 183):=by kernel_rfl
 have hk:prog.underlying 9=some .string:=by kernel_rfl
 have hz:zeroA prog 183=some .nilf:=by kernel_rfl
 have hm:=qry (fun f=>.fb f [.gp b 0 sh]) w
 simp only[lookA,hu,hk,need,if_true,hz,bnd,stmM,hm]
 cases stmG w<;>simp[qaa]
theorem q1d (b:Nat) (sh:Option (TypeId×Nat)) (σ:List (List AV)):ev 116 [.gp b 0 sh] σ=some (.mp stmN (stmM b sh),σ):=by rw[qi3];rfl
def endP (p:Ps):Except (Int×Int) Unit :=
 if p.blk≠[] then .error (p.line+1,11) else if p.md=false then .error (0,2) else if p.f.rq.any (isQ p.f.m) then .error (0,12) else .ok ()
theorem q1e (b:Nat) (sh:Option (TypeId×Nat)) (p:Ps) (σ:List (List AV)) (hf:MfB p.f) (h0:0≤p.line) (h1:p.line≤2^40) (hb:σ[b]? = some (psC p)) :
  match endP p with
  | .ok _=>ev 35 [.gp b 0 sh] σ=some (.tup [],σ.set b (psC {p with line:=0}))
  | .error e=>pc 35 [.gp b 0 sh] σ (fltV e.1 e.2):=by
 have hbl:=(List.getElem?_eq_some_iff.1 hb).1
 have hg:=fun c=>qdi hbl c
 have hg2:∀(c:List AV) (J:List (List AV)),(σ.set b c++J)[b]? = some c:=fun c J=>qb8 (hg c) J
 have hW:=fun b e=>qa8 b e
 have hlq:=hf.lq
 have w1:IntKind.i64.wrap (p.line+1)=p.line+1:=qh (by omega)
 obtain⟨⟨m,g,rq,ex,rp,rt⟩,line,blk,ind,md⟩:=p
 simp only[psC,endP] at hb hlq w1 ⊢
 have hm:=qe9 b sh
 obtain⟨A2,hA2⟩:∃A,slN 52 2 (ex.map modA)=A:=⟨_,rfl⟩
 rw[hA2] at hb
 have lw2:low σ.length A2:=by rw[← hA2];exact qb9 _ _ (by simp)
 obtain⟨A3,hA3⟩:∃A,slN 54 4 (rp.map rpF)=A:=⟨_,rfl⟩
 rw[hA3] at hb
 have lw3:low σ.length A3:=by rw[← hA3];exact qb9 _ _ (by simp)
 obtain⟨A4,hA4⟩:∃A,slN 50 2 (rt.map rtF)=A:=⟨_,rfl⟩
 rw[hA4] at hb
 have lw4:low σ.length A4:=by rw[← hA4];exact qb9 _ _ (by simp)
 by_cases hblk:blk=[]
 ·rw[if_neg (by simpa using hblk)]
  subst hblk
  cases md with
  | false =>
   rw[if_pos rfl]
   show pc _ _ _ _
   have hp:=fun c=>qba b sh (σ.set b c) c 0 2 (hg c)
   refine qbv 3 7 rfl func35 rfl (by simp[ntmps35]) (by kernel_rfl) (by kernel_rfl) ?_
   simp (maxSteps:=mS) [-getElem?_pos,hb,hg,hW,hm,w1,hp]
  | true =>
   rw[if_neg (by simp)]
   have hOP:=fun σ=>qep m σ
   have hCF:=fun (S:List (List AV))=>qbk rq (by omega) 132 (by decide) [.gp S.length 0 (some (9,1))] (by simp[args,arg,dem]) (isQ m) (S++[[.str m]]) (fun y _=>qdv m _ _ y _ (by simp))
   obtain⟨t,ht⟩:∃t,rq.any (isQ m)=t:=⟨_,rfl⟩
   simp only[ht] at hCF ⊢
   replace hCF:=fun c:List AV=>hCF (σ.set b c)
   simp only[List.length_set] at hCF
   obtain⟨L,hL⟩:∃L,rq.map rqF=L:=⟨_,rfl⟩
   have hall:allCells 3 L:=by rw[← hL];simp
   have lwL:lowL σ.length L:=by rw[← hL];simp
   rw[hL] at hCF hb ⊢
   rcases qbz 41 3 L with ⟨e0,e1⟩|e1
   ·subst e0
    rw[e1] at hb ⊢
    cases t with
    | true =>
     rw[if_pos rfl]
     show pc _ _ _ _
     have hp:=fun c J=>qba b sh (σ.set b c++J) c 0 12 (hg2 c J)
     refine qbv 4 14 rfl func35 rfl (by simp[ntmps35]) (by kernel_rfl) (by kernel_rfl) ?_
     simp (maxSteps:=mS) [-getElem?_pos,-qb,hb,hg,hW,hm,w1]
     refine qfx [] _ _ (by kernel_rfl) (by rfl) (by rfl) (by simp (maxSteps:=mS) [];exact rfl) (by simp only[List.length_cons,List.length_nil,Nat.reduceAdd,Nat.reduceSub,List.take_succ_cons,List.take_zero];exact rfl) ?_
     repeat (first|refine qd _ (hs:=by simp (maxSteps:=mS) [-getElem?_pos,hb,hg,hg2,hW,hOP,hCF];exact rfl) (k:=?_)|refine qe _ (k:=?_))
     refine qc ?_
     simp (maxSteps:=mS) [hp]
    | false =>
     rw[if_neg (by simp)]
     show ev _ _ _=_
     simp only[hA2,hA3,hA4]
     refine qk func35 ntmps35 ?_
     simp (maxSteps:=mS) [-getElem?_pos,-qb,hb,hg,hW,hm,w1]
     refine qg [] _ (k:=?_)
     repeat (first|refine qd _ (hs:=by simp (maxSteps:=mS) [-getElem?_pos,hb,hg,hg2,hW,hOP,hCF,hm];exact rfl) (k:=?_)|refine qe _ (k:=?_))
     refine qc ?_
     simp (maxSteps:=mS) [-getElem?_pos,hg,hg2,take_app,results35]
     all_goals rw[qo (qg4 _ _ (by simp[low,lowL,lwL,lw2,lw3,lw4]))]
   ·rw[e1] at hb ⊢
    cases t with
    | true =>
     rw[if_pos rfl]
     show pc _ _ _ _
     have hp:=fun c J=>qba b sh (σ.set b c++J) c 0 12 (hg2 c J)
     refine qbv 4 14 rfl func35 rfl (by simp[ntmps35]) (by kernel_rfl) (by kernel_rfl) ?_
     simp (maxSteps:=mS) [-getElem?_pos,-qb,hb,hg,hW,hm,w1]
     refine qfx [] _ _ (by kernel_rfl) (by rfl) (by rfl) (by simp (maxSteps:=mS) [];exact rfl) (by simp only[List.length_cons,List.length_nil,Nat.reduceAdd,Nat.reduceSub,List.take_succ_cons,List.take_zero];exact rfl) ?_
     repeat (first|refine qd _ (hs:=by simp (maxSteps:=mS) [-getElem?_pos,hb,hg,hg2,hW,hOP,hCF,hall];exact rfl) (k:=?_)|refine qe _ (k:=?_))
     refine qc ?_
     simp (maxSteps:=mS) [hp]
    | false =>
     rw[if_neg (by simp)]
     show ev _ _ _=_
     simp only[hA2,hA3,hA4]
     refine qk func35 ntmps35 ?_
     simp (maxSteps:=mS) [-getElem?_pos,-qb,hb,hg,hW,hm,w1]
     refine qg [] _ (k:=?_)
     repeat (first|refine qd _ (hs:=by simp (maxSteps:=mS) [-getElem?_pos,hb,hg,hg2,hW,hOP,hCF,hm,hall];exact rfl) (k:=?_)|refine qe _ (k:=?_))
     refine qc ?_
     simp (maxSteps:=mS) [-getElem?_pos,hg,hg2,take_app,results35]
     all_goals rw[qo (qg4 _ _ (by simp[low,lowL,lwL,lw2,lw3,lw4]))]
 ·rw[if_pos hblk]
  show pc _ _ _ _
  have hblk':(blk==[])=false:=by simpa using hblk
  have hp:=fun c=>qba b sh (σ.set b c) c (line+1) 11 (hg c)
  refine qbv 1 7 rfl func35 rfl (by simp[ntmps35]) (by kernel_rfl) (by kernel_rfl) ?_
  simp (maxSteps:=mS) [-getElem?_pos,hb,hg,hW,hm,w1,hp,hblk,hblk']
end Go.Proofs.Tryz.Ai
end
