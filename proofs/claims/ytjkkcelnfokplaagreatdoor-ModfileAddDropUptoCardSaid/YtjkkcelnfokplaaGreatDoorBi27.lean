/- Part 27 of a proof: Go functions are evaluated on abstract values; no conditions beyond those of each theorem. -/
import Derived.Test.YtjkkcelnfokplaaGreatDoorBi26
import Derived.Recover
set_option linter.all false
set_option maxHeartbeats 16000000
set_option maxRecDepth 4000
section
namespace Go.Proofs.Tryz.Ai
open Go Go.AI Go.Proofs
theorem quw (m g:List UInt8) (rq:List Rq) (ex:List (List UInt8×List UInt8)) (rp:List Rp) (rt:List Rt) (hf:MfB ⟨m,g,rq,ex,rp,rt⟩) (σ:List (List AV)):ev 15 [mfF ⟨m,g,rq,ex,rp,rt⟩] σ=some (mfF (canonM ⟨m,g,rq,ex,rp,rt⟩),σ):=by
 have hA:mfF (canonM ⟨m,g,rq,ex,rp,rt⟩)=.agg [.str m,.str g,.sl .sh ((isrt rqC rq).map rqF),.sl .sh ((isrt modC ex).map modA),.sl .sh ((isrt rpC rp).map rpF),.sl .sh ((isrt rtC rt).map rtF)]:=rfl
 rw[hA,mfFx]
 have hM:=fun σ=>qla ex (by have:=hf.le;simp only at this;omega) (fun x hx=>⟨by have:=(hf.ex x hx).1;omega,by have:=(hf.ex x hx).2;omega⟩) σ
 simp only
 have sQ:=fun b S=>qqt rq hf.lq (fun x hx=>hf.rq x hx) b S
 have lQ:(isrt rqC rq).length=rq.length:=qv _
 have eQ:=quq (isrt rqC rq)
 rw[← qqs,lQ] at eQ
 have nQ:=qf7 58
 have wQ:lowL σ.length ((isrt rqC rq).map rqF):=by simp
 have cQ:rq≠[]→∀S:List (List AV),ev (100000+53) [.sl .sh (rq.map rqF)] S=some (.ms 41 3 S.length 0 rq.length,S++[rowE esQ rq]):=fun h S=>qho rq hf.lq h S
 have zQ:=qge
 have sP:=fun b S=>qqv rp hf.lp (fun x hx=>hf.rp x hx) b S
 have lP:(isrt rpC rp).length=rp.length:=qv _
 have eP:=qur (isrt rpC rp)
 rw[← qqu,lP] at eP
 have nP:=qf9 61
 have wP:lowL σ.length ((isrt rpC rp).map rpF):=by simp
 have cP:rp≠[]→∀S:List (List AV),ev (100000+55) [.sl .sh (rp.map rpF)] S=some (.ms 54 4 S.length 0 rp.length,S++[rowE esP rp]):=fun h S=>qnx rp hf.lp h S
 have zP:=qld
 have sT:=fun b S=>qqx rt hf.lt (fun x hx=>hf.rt x hx) b S
 have lT:(isrt rtC rt).length=rt.length:=qv _
 have eT:=qus (isrt rtC rt)
 rw[← qqw,lT] at eT
 have nT:=qf8 65
 have wT:lowL σ.length ((isrt rtC rt).map rtF):=by simp
 have cT:rt≠[]→∀S:List (List AV),ev (100000+56) [.sl .sh (rt.map rtF)] S=some (.ms 50 2 S.length 0 rt.length,S++[rowE esT rt]):=fun h S=>qny rt hf.lt h S
 have zT:=qle
 have wM:lowL σ.length ((isrt modC ex).map modA):=by simp
 clear hf
 obtain⟨LM,hLM⟩:∃L,(isrt modC ex).map modA=L:=⟨_,rfl⟩
 obtain⟨KM,hKM⟩:∃L,ex.map modA=L:=⟨_,rfl⟩
 rw[hLM,hKM] at hM
 rw[hLM] at wM ⊢
 rw[hKM]
 obtain⟨RQ,hRQ⟩:∃R,rowE esQ rq=R:=⟨_,rfl⟩
 obtain⟨RQ',hRQ'⟩:∃R,rowE esQ (isrt rqC rq)=R:=⟨_,rfl⟩
 obtain⟨MQ,hMQ⟩:∃R,(isrt rqC rq).map rqF=R:=⟨_,rfl⟩
 obtain⟨NQ,hNQ⟩:∃R,rq.map rqF=R:=⟨_,rfl⟩
 rw[hRQ] at sQ cQ
 rw[hRQ'] at sQ eQ
 rw[hMQ] at eQ wQ ⊢
 rw[hNQ] at cQ ⊢
 have dQ:rq=[]→NQ=[]∧MQ=[]:=fun h=>by subst h;exact⟨hNQ.symm,hMQ.symm⟩
 obtain⟨RP,hRP⟩:∃R,rowE esP rp=R:=⟨_,rfl⟩
 obtain⟨RP',hRP'⟩:∃R,rowE esP (isrt rpC rp)=R:=⟨_,rfl⟩
 obtain⟨MP,hMP⟩:∃R,(isrt rpC rp).map rpF=R:=⟨_,rfl⟩
 obtain⟨NP,hNP⟩:∃R,rp.map rpF=R:=⟨_,rfl⟩
 rw[hRP] at sP cP
 rw[hRP'] at sP eP
 rw[hMP] at eP wP ⊢
 rw[hNP] at cP ⊢
 have dP:rp=[]→NP=[]∧MP=[]:=fun h=>by subst h;exact⟨hNP.symm,hMP.symm⟩
 obtain⟨RT,hRT⟩:∃R,rowE esT rt=R:=⟨_,rfl⟩
 obtain⟨RT',hRT'⟩:∃R,rowE esT (isrt rtC rt)=R:=⟨_,rfl⟩
 obtain⟨MT,hMT⟩:∃R,(isrt rtC rt).map rtF=R:=⟨_,rfl⟩
 obtain⟨NT,hNT⟩:∃R,rt.map rtF=R:=⟨_,rfl⟩
 rw[hRT] at sT cT
 rw[hRT'] at sT eT
 rw[hMT] at eT wT ⊢
 rw[hNT] at cT ⊢
 have dT:rt=[]→NT=[]∧MT=[]:=fun h=>by subst h;exact⟨hNT.symm,hMT.symm⟩
 have key:∀(vQ vP vT:AV),True:=fun _ _ _=>trivial
 by_cases hQ:rq=[]
 ·obtain⟨aQ,bQ⟩:=dQ hQ
  rw[aQ,bQ]
  by_cases hP:rp=[]
  ·obtain⟨aP,bP⟩:=dP hP
   rw[aP,bP]
   by_cases hT:rt=[]
   ·obtain⟨aT,bT⟩:=dT hT
    rw[aT,bT]
    refine qh func15 ntmps15 ?_
    simp (maxSteps:=mS) [-qb]
    refine qk [] _ (k:=?_)
    repeat (first|refine qd _ (hs:=by simp (maxSteps:=mS) [-getElem?_pos,hM,zQ,zP,zT];exact rfl) (k:=?_)|refine qe _ (k:=?_))
    refine qc ?_
    simp (maxSteps:=mS) [-getElem?_pos,nQ,nP,nT,wM,results15]
   ·have cT':=cT hT
    have pT:0<rt.length:=List.length_pos_iff.2 hT
    refine qh func15 ntmps15 ?_
    simp (maxSteps:=mS) [-qb]
    refine qk [] _ (k:=?_)
    repeat (first|refine qd _ (hs:=by simp (maxSteps:=mS) [-getElem?_pos,hM,zQ,zP,cT'];exact rfl) (k:=?_)|refine qe _ (k:=?_))
    refine qc ?_
    simp (maxSteps:=mS) [-getElem?_pos,nQ,nP,sT,eT,wT,pT,wM,results15]
  ·have cP':=cP hP
   have pP:0<rp.length:=List.length_pos_iff.2 hP
   by_cases hT:rt=[]
   ·obtain⟨aT,bT⟩:=dT hT
    rw[aT,bT]
    refine qh func15 ntmps15 ?_
    simp (maxSteps:=mS) [-qb]
    refine qk [] _ (k:=?_)
    repeat (first|refine qd _ (hs:=by simp (maxSteps:=mS) [-getElem?_pos,hM,zQ,cP',zT];exact rfl) (k:=?_)|refine qe _ (k:=?_))
    refine qc ?_
    simp (maxSteps:=mS) [-getElem?_pos,nQ,sP,eP,wP,pP,nT,wM,results15]
   ·have cT':=cT hT
    have pT:0<rt.length:=List.length_pos_iff.2 hT
    refine qh func15 ntmps15 ?_
    simp (maxSteps:=mS) [-qb]
    refine qk [] _ (k:=?_)
    repeat (first|refine qd _ (hs:=by simp (maxSteps:=mS) [-getElem?_pos,hM,zQ,cP',cT'];exact rfl) (k:=?_)|refine qe _ (k:=?_))
    refine qc ?_
    simp (maxSteps:=mS) [-getElem?_pos,nQ,sP,eP,wP,pP,sT,eT,wT,pT,wM,results15]
 ·have cQ':=cQ hQ
  have pQ:0<rq.length:=List.length_pos_iff.2 hQ
  by_cases hP:rp=[]
  ·obtain⟨aP,bP⟩:=dP hP
   rw[aP,bP]
   by_cases hT:rt=[]
   ·obtain⟨aT,bT⟩:=dT hT
    rw[aT,bT]
    refine qh func15 ntmps15 ?_
    simp (maxSteps:=mS) [-qb]
    refine qk [] _ (k:=?_)
    repeat (first|refine qd _ (hs:=by simp (maxSteps:=mS) [-getElem?_pos,hM,cQ',zP,zT];exact rfl) (k:=?_)|refine qe _ (k:=?_))
    refine qc ?_
    simp (maxSteps:=mS) [-getElem?_pos,sQ,eQ,wQ,pQ,nP,nT,wM,results15]
   ·have cT':=cT hT
    have pT:0<rt.length:=List.length_pos_iff.2 hT
    refine qh func15 ntmps15 ?_
    simp (maxSteps:=mS) [-qb]
    refine qk [] _ (k:=?_)
    repeat (first|refine qd _ (hs:=by simp (maxSteps:=mS) [-getElem?_pos,hM,cQ',zP,cT'];exact rfl) (k:=?_)|refine qe _ (k:=?_))
    refine qc ?_
    simp (maxSteps:=mS) [-getElem?_pos,sQ,eQ,wQ,pQ,nP,sT,eT,wT,pT,wM,results15]
  ·have cP':=cP hP
   have pP:0<rp.length:=List.length_pos_iff.2 hP
   by_cases hT:rt=[]
   ·obtain⟨aT,bT⟩:=dT hT
    rw[aT,bT]
    refine qh func15 ntmps15 ?_
    simp (maxSteps:=mS) [-qb]
    refine qk [] _ (k:=?_)
    repeat (first|refine qd _ (hs:=by simp (maxSteps:=mS) [-getElem?_pos,hM,cQ',cP',zT];exact rfl) (k:=?_)|refine qe _ (k:=?_))
    refine qc ?_
    simp (maxSteps:=mS) [-getElem?_pos,sQ,eQ,wQ,pQ,sP,eP,wP,pP,nT,wM,results15]
   ·have cT':=cT hT
    have pT:0<rt.length:=List.length_pos_iff.2 hT
    refine qh func15 ntmps15 ?_
    simp (maxSteps:=mS) [-qb]
    refine qk [] _ (k:=?_)
    repeat (first|refine qd _ (hs:=by simp (maxSteps:=mS) [-getElem?_pos,hM,cQ',cP',cT'];exact rfl) (k:=?_)|refine qe _ (k:=?_))
    refine qc ?_
    simp (maxSteps:=mS) [-getElem?_pos,sQ,eQ,wQ,pQ,sP,eP,wP,pP,sT,eT,wT,pT,wM,results15]
theorem qd8 (f:Mf) (hf:MfB f) (σ:List (List AV)):ev 15 [mfF f] σ=some (mfF (canonM f),σ):=quw f.m f.g f.rq f.ex f.rp f.rt hf σ
end Go.Proofs.Tryz.Ai
end
section
namespace Go.AI
section
variable {P:Program} {hh:Hint} {C:Oracle} {CP:Panics}
theorem qd9 {c a b:Code} {st:St} {K:Ex→St→Prop} (h:c=.seq a b) (k:Post (EXEC P hh C (.seq a b) st) K):Post (EXEC P hh C c st) K:=by rw[h];exact k
theorem qyb {Φ:List (Nat×AV)→Prop} {c a b:Code} {st:St} {r:AV} (h:c=.seq a b) (k:PY P hh C CP Φ (.seq a b) st r):PY P hh C CP Φ c st r:=by rw[h];exact k
end
def dropSeq:Nat→Code→Code
 | n+1,.seq _ b=>dropSeq n b
 | _,c=>c
end Go.AI
namespace Go.Proofs.Tryz.Ai
open Go Go.AI Go.Proofs
noncomputable def restC:Code:=dropSeq 3 (Tryz.f9.body.getD .skip)
theorem qiv (σ:List (List AV)) (x y:List AV):(σ++[x]).set σ.length y=σ++[y]:=by simp
structure RdI (text:List UInt8) (R:Except (Int×Int) Ps) (q:List UInt8×Ps):Prop where
 f:MfB q.2.f
 k:q.2.blk=[]
 m:(lnT q.1).all smpL=true
 l0:0≤q.2.line
 l1:q.2.line+q.1.length≤text.length
 r:readLs q.2 (lnT q.1)=R
theorem RdI.start (text:List UInt8) (hsm:(lnT text).all smpL=true):RdI text (readLs ps0 (lnT text)) (text,ps0) :=
 ⟨⟨by simp[ps0],by simp[ps0],by simp[ps0],by simp[ps0],by simp[ps0],by simp[ps0],by simp[ps0],by simp[ps0],by simp[ps0],by simp[ps0]⟩,rfl,hsm,by simp[ps0],by simp[ps0],rfl⟩
theorem RdI.hd {text:List UInt8} {R:Except (Int×Int) Ps} {s:List UInt8} {p:Ps} (h:RdI text R (s,p)) (hs:s≠[]):smpL (Lib.cut s [10]).1=true∧(lnT (Lib.cut s [10]).2.1).all smpL=true:=by
 have:=h.m
 simp only[qfc hs,List.all_cons,Bool.and_eq_true] at this
 exact this
theorem RdI.next {text:List UInt8} (ht:text.length≤65536) {R:Except (Int×Int) Ps} {s:List UInt8} {p q:Ps} (h:RdI text R (s,p)) (hs:s≠[]) (hr:readP p (Lib.cut s [10]).1=.ok q):RdI text R ((Lib.cut s [10]).2.1,q):=by
 have h1:=h.l1
 have h0:=h.l0
 simp only at h1 h0
 have hc:=(qd6 s [10]).1
 obtain⟨k1,k2,k3⟩:=qlh hr h.f (by omega) h.k (h.hd hs).1
 have hl:=qd7 hs
 refine⟨k1,k3,(h.hd hs).2,by simp only;omega,by simp only;omega,?_⟩
 have:=h.r
 simp only[qfc hs,readLs,hr] at this ⊢
 exact this
theorem qyc (p:Ps):(psC p).length=10:=rfl
theorem qyd (t:TypeId) (n:Nat) (xs:List AV):dem (slN t n xs)=.sl .sh xs:=by cases xs<;>rfl
theorem take_psC (p:Ps):List.take 6 ((psC p).map dem)=[.str p.f.m,.str p.f.g,.sl .sh (p.f.rq.map rqF),.sl .sh (p.f.ex.map modA),.sl .sh (p.f.rp.map rpF),.sl .sh (p.f.rt.map rtF)]:=by
 unfold psC
 simp only[List.map_cons,List.map_nil,qyd]
 rfl
def PhiP (b2 b3 b4:Nat) (s2 s3 s4:Option (TypeId×Nat)) (t:List (Nat×AV)):Prop:=AI.look t 2=some (.gp b2 0 s2)∧AI.look t 3=some (.gp b3 0 s3)∧AI.look t 4=some (.gp b4 0 s4)
theorem qye (b2 b3 b4:Nat) (s2 s3 s4:Option (TypeId×Nat)) (text:List UInt8) (ht:text.length≤65536) (pE:Ps) (hsm:(lnT text).all smpL=true) (hp:readLs ps0 (lnT text)=.ok pE) (hE:endP pE=.ok ()) (σ:List (List AV)) (hb2:b2<σ.length) (hb3:b3<σ.length) (hb4:b4<σ.length) (h23:b2≠b3) (h24:b2≠b4) (h34:b3≠b4)
  (a0 a1 a2 a3 a4 a5:AV) (hs2:σ[b2]? = some [a0,a1,a2,a3,a4,a5]) (hs3:σ[b3]? = some [.int .i64 0]) (hs4:σ[b4]? = some [.int .i64 0]) :
  Post (EXEC Tryz.prog h9 (EV Tryz.prog H T) restC ⟨[(0,.str text),(2,.gp b2 0 s2),(3,.gp b3 0 s3),(4,.gp b4 0 s4)],[],σ⟩) fun e st=>e=.ret∧PhiP b2 b3 b4 s2 s3 s4 st.t∧st.s=((σ.set b2 (mfC (canonM pE.f))).set b3 [.int .i64 0]).set b4 [.int .i64 0]++[psC {pE with line:=0}]:=by
 have h0:=RdI.start text hsm
 rw[hp] at h0
 have ha:∀(J:List (List AV)) b c,σ[b]? = some c→(σ++J)[b]? = some c:=fun J b c h=>qb0 h J
 refine qd9 (by rfl) ?_
 simp (maxSteps:=4000000) []
 refine qj (I:=fun q:List UInt8×Ps=>⟨[(2,.gp b2 0 s2),(3,.gp b3 0 s3),(4,.gp b4 0 s4),(5,.gp σ.length 0 (some (84,10))),(6,.str q.1)],[],σ++[psC q.2]⟩) (Pr:=RdI text (.ok pE)) (μ:=fun q=>q.1.length) (a:=(text,ps0)) (by simp[psC,ps0,slN]) h0 ?_
 rintro⟨s,p⟩ hI
 have h1:=hI.l1
 have hl0:=hI.l0
 have hf:=hI.f
 have hk:=hI.k
 simp only at h1 hl0 hf hk ⊢
 have hgl:(σ++[psC p])[σ.length]? = some (psC p):=by simp
 by_cases hs:s=[]
 ·subst hs
  have hr:=hI.r
  simp only[qq5,readLs] at hr
  injection hr with hr
  subst hr
  have hEn:=q0z σ.length (some (84,10)) p (σ++[psC p]) hf hl0 (by simp at h1;omega) hgl
  rw[hE] at hEn
  simp only[qiv] at hEn
  have hCa:=qd8 p.f hf
  simp only[mfFx,canonM] at hCa
  have f2:=fun J=>qb0 hs2 J
  have e2:=fun x J=>qit hb2 x J
  have f3:∀(x:List AV) J,(σ.set b2 x++J)[b3]? = some [.int .i64 0]:=fun x J=>qb0 (by rw[List.getElem?_set,if_neg h23];exact hs3) J
  have e3:∀(x y:List AV) J,(σ.set b2 x++J).set b3 y=(σ.set b2 x).set b3 y++J:=fun x y J=>qit (by simpa using hb3) y J
  have f4:∀(x y:List AV) J,((σ.set b2 x).set b3 y++J)[b4]? = some [.int .i64 0]:=fun x y J=>qb0 (by rw[List.getElem?_set,if_neg h34,List.getElem?_set,if_neg h24];exact hs4) J
  have e4:∀(x y z:List AV) J,((σ.set b2 x).set b3 y++J).set b4 z=((σ.set b2 x).set b3 y).set b4 z++J:=fun x y z J=>qit (by simpa using hb4) z J
  simp (maxSteps:=4000000) [-getElem?_pos,PhiP,hEn,qyc,take_psC,hCa,f2,e2,f3,e3,f4,e4,hgl]
  rfl
 ·have hs':(s==[])=false:=by simpa using hs
  have hC:∀σ,ev 33 [.str s,.str [10]] σ=some (.tup [.str (Lib.cut s [10]).1,.str (Lib.cut s [10]).2.1,.bool (Lib.cut s [10]).2.2],σ):=fun σ=>by rw[ql8];exact qo (by omega)
  have hcl:=(qd6 s [10]).1
  have hR:=qq2 σ.length (some (84,10)) p (Lib.cut s [10]).1 (σ++[psC p]) hf hl0 (by omega) (by omega) hk (hI.hd hs).1 hgl
  have hr:=hI.r
  simp only[qfc hs,readLs] at hr
  cases hq:readP p (Lib.cut s [10]).1 with
  | error e=>rw[hq] at hr;cases hr
  | ok q =>
   have hn:=hI.next ht hs hq
   have hls:=qd7 hs
   rw[hq] at hR
   simp only[qiv] at hR
   obtain⟨⟨c1,c2,c3⟩,hc⟩:∃c,Lib.cut s [10]=c:=⟨_,rfl⟩
   simp only[hc] at hC hR hn hls
   simp (maxSteps:=4000000) [-Prod.exists,hs,hs',hC,hR]
   exact⟨(c2,q),hn,hls,by simp⟩
end Go.Proofs.Tryz.Ai
end
section
namespace Go.Proofs.Tryz.Ai
open Go Go.AI Go.Proofs
theorem qq7 (b2 b3 b4:Nat) (s2 s3 s4:Option (TypeId×Nat)) (text:List UInt8) (ht:text.length≤65536) (e:Int×Int) (hsm:(lnT text).all smpL=true) (hp:readLs ps0 (lnT text)=.error e) (σ:List (List AV)) :
  PY prog h9 (EV prog H T) (PC prog H T) (PhiP b2 b3 b4 s2 s3 s4) restC ⟨[(0,.str text),(2,.gp b2 0 s2),(3,.gp b3 0 s3),(4,.gp b4 0 s4)],[],σ⟩ (fltV e.1 e.2):=by
 have h0:=RdI.start text hsm
 rw[hp] at h0
 refine qyb (by rfl) (qv2 (id:=8) (k:=2) ?_)
 simp (maxSteps:=mS) []
 refine qxk (I:=fun q:List UInt8×Ps=>⟨[(2,.gp b2 0 s2),(3,.gp b3 0 s3),(4,.gp b4 0 s4),(5,.gp σ.length 0 (some (84,10))),(6,.str q.1)],[],σ++[psC q.2]⟩) (Pr:=RdI text (.error e)) (μ:=fun q=>q.1.length) (text,ps0) (by simp[psC,ps0,slN]) h0 ?_
 rintro⟨s,p⟩ hI
 have h1:=hI.l1
 have hl0:=hI.l0
 have hf:=hI.f
 have hk:=hI.k
 simp only at h1 hl0 hf hk ⊢
 have hgl:(σ++[psC p])[σ.length]? = some (psC p):=by simp
 by_cases hs:s=[]
 ·subst hs
  have hr:=hI.r
  simp only[qq5,readLs] at hr
  cases hr
 ·have hs':(s==[])=false:=by simpa using hs
  have hC:∀σ,ev 33 [.str s,.str [10]] σ=some (.tup [.str (Lib.cut s [10]).1,.str (Lib.cut s [10]).2.1,.bool (Lib.cut s [10]).2.2],σ):=fun σ=>by rw[ql8];exact qo (by omega)
  have hcl:=(qd6 s [10]).1
  have hR:=qq2 σ.length (some (84,10)) p (Lib.cut s [10]).1 (σ++[psC p]) hf hl0 (by omega) (by omega) hk (hI.hd hs).1 hgl
  have hr:=hI.r
  simp only[qfc hs,readLs] at hr
  cases hq:readP p (Lib.cut s [10]).1 with
  | error e' =>
   rw[hq] at hR hr
   simp only at hR hr
   injection hr with hr
   subst hr
   left
   obtain⟨⟨c1,c2,c3⟩,hc⟩:∃c,Lib.cut s [10]=c:=⟨_,rfl⟩
   simp only[hc] at hC hR
   refine qv2 (id:=8) (k:=2) ?_
   simp (maxSteps:=mS) [PhiP,hs,hs',hC,hR]
  | ok q =>
   right
   have hn:=hI.next ht hs hq
   have hls:=qd7 hs
   rw[hq] at hR
   simp only[qiv] at hR
   obtain⟨⟨c1,c2,c3⟩,hc⟩:∃c,Lib.cut s [10]=c:=⟨_,rfl⟩
   simp only[hc] at hC hR hn hls
   simp (maxSteps:=mS) [-Prod.exists,hs,hs',hC,hR]
   exact⟨(c2,q),hn,hls,by simp⟩
end Go.Proofs.Tryz.Ai
end
section
namespace Go.Proofs.Tryz.Ai
open Go Go.AI Go.RowKit Go.Proofs
theorem qux (p2 p3 p4:Value) (w:World):CallsD prog 32 #[p2,p3,p4] .returning w fun e u' w'=>(∃v,e=.returned v)∧u'=.returning∧w'=w:=by
 refine callsD_of_wpS func32 (by rfl) ?_
 intro c₀ cs hc
 refine wpS_seq (wpS_region ?_)
 have hr:recoverD (c₀::cs)=none:=by simp[recoverD,hc]
 simp only[wpOpsS,hr,List.range_succ,Region.wanted,execOp,resolve,invoke,Exit.thenS,List.size_toArray,List.length_cons,List.length_nil,List.range_zero,List.nil_append,List.getElem?_toArray,List.getElem?_cons_zero,Nat.zero_add]
 simp[builtin,Sem.run_bind]
 refine wpS_of_wp ?_
 go_wp2
 exact⟨rfl,.returning,by rw[← hc],.tuple #[],by simp[results,results32],⟨_,rfl⟩,rfl,rfl⟩
end Go.Proofs.Tryz.Ai
end
