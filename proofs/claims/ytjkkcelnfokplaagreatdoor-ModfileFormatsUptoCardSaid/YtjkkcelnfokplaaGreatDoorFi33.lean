/- Part 33 of a proof: Go functions are evaluated on abstract values; no conditions beyond those of each theorem. -/
import Derived.Test.YtjkkcelnfokplaaGreatDoorFi32
import Derived.Recover
set_option linter.all false
set_option maxHeartbeats 16000000
set_option maxRecDepth 4000
section
namespace Go.Proofs.Tryz.Ai
open Go Go.AI Go.Proofs
theorem qvj (m g:List UInt8) (rq:List Rq) (ex:List (List UInt8×List UInt8)) (rp:List Rp) (rt:List Rt) (hf:MfB ⟨m,g,rq,ex,rp,rt⟩) (σ:List (List AV)):ev 15 [mfF ⟨m,g,rq,ex,rp,rt⟩] σ=some (mfF (canonM ⟨m,g,rq,ex,rp,rt⟩),σ):=by
 have hA:mfF (canonM ⟨m,g,rq,ex,rp,rt⟩)=.agg [.str m,.str g,.sl .sh ((isrt rqC rq).map rqF),.sl .sh ((isrt modC ex).map modA),.sl .sh ((isrt rpC rp).map rpF),.sl .sh ((isrt rtC rt).map rtF)]:=rfl
 rw[hA,mfFx]
 have hM:=fun σ=>qme ex (by have:=hf.le;simp only at this;omega) (fun x hx=>⟨by have:=(hf.ex x hx).1;omega,by have:=(hf.ex x hx).2;omega⟩) σ
 simp only
 have sQ:=fun b S=>qkz rq hf.lq (fun x hx=>hf.rq x hx) b S
 have lQ:(isrt rqC rq).length=rq.length:=qp _
 have eQ:=qvd (isrt rqC rq)
 rw[← qru,lQ] at eQ
 have nQ:=qdd 58
 have wQ:lowL σ.length ((isrt rqC rq).map rqF):=by simp
 have cQ:rq≠[]→∀S:List (List AV),ev (100000+53) [.sl .sh (rq.map rqF)] S=some (.ms 41 3 S.length 0 rq.length,S++[rowE esQ rq]):=fun h S=>qid rq hf.lq h S
 have zQ:=qg1
 have sP:=fun b S=>qk0 rp hf.lp (fun x hx=>hf.rp x hx) b S
 have lP:(isrt rpC rp).length=rp.length:=qp _
 have eP:=qve (isrt rpC rp)
 rw[← qrv,lP] at eP
 have nP:=qdf 61
 have wP:lowL σ.length ((isrt rpC rp).map rpF):=by simp
 have cP:rp≠[]→∀S:List (List AV),ev (100000+55) [.sl .sh (rp.map rpF)] S=some (.ms 54 4 S.length 0 rp.length,S++[rowE esP rp]):=fun h S=>qie rp hf.lp h S
 have zP:=qg2
 have sT:=fun b S=>qk1 rt hf.lt (fun x hx=>hf.rt x hx) b S
 have lT:(isrt rtC rt).length=rt.length:=qp _
 have eT:=qvf (isrt rtC rt)
 rw[← qrw,lT] at eT
 have nT:=qde 65
 have wT:lowL σ.length ((isrt rtC rt).map rtF):=by simp
 have cT:rt≠[]→∀S:List (List AV),ev (100000+56) [.sl .sh (rt.map rtF)] S=some (.ms 50 2 S.length 0 rt.length,S++[rowE esT rt]):=fun h S=>qif rt hf.lt h S
 have zT:=qg3
 have wM:lowL σ.length ((isrt modC ex).map modA):=by simp
 clear hf
 obtain⟨LM,hLM⟩:∃L,(isrt modC ex).map modA=L:=⟨_,rfl⟩
 obtain⟨KM,hKM⟩:∃L,ex.map modA=L:=⟨_,rfl⟩
 rw[hLM,hKM] at hM
 rw[hLM] at wM ⊢
 rw[hKM]
 obtain⟨RQ,hRQ⟩:∃R,rowE esQ rq=R:=⟨_,rfl⟩
 obtain⟨RQ',hRQ'⟩:∃R,rowE esQ (isrt rqC rq)=R:=⟨_,rfl⟩
 obtain⟨MQ,hMQ⟩:∃R,(isrt rqC rq).map rqF=R:=⟨_,rfl⟩
 obtain⟨NQ,hNQ⟩:∃R,rq.map rqF=R:=⟨_,rfl⟩
 rw[hRQ] at sQ cQ
 rw[hRQ'] at sQ eQ
 rw[hMQ] at eQ wQ ⊢
 rw[hNQ] at cQ ⊢
 have dQ:rq=[]→NQ=[]∧MQ=[]:=fun h=>by subst h;exact⟨hNQ.symm,hMQ.symm⟩
 obtain⟨RP,hRP⟩:∃R,rowE esP rp=R:=⟨_,rfl⟩
 obtain⟨RP',hRP'⟩:∃R,rowE esP (isrt rpC rp)=R:=⟨_,rfl⟩
 obtain⟨MP,hMP⟩:∃R,(isrt rpC rp).map rpF=R:=⟨_,rfl⟩
 obtain⟨NP,hNP⟩:∃R,rp.map rpF=R:=⟨_,rfl⟩
 rw[hRP] at sP cP
 rw[hRP'] at sP eP
 rw[hMP] at eP wP ⊢
 rw[hNP] at cP ⊢
 have dP:rp=[]→NP=[]∧MP=[]:=fun h=>by subst h;exact⟨hNP.symm,hMP.symm⟩
 obtain⟨RT,hRT⟩:∃R,rowE esT rt=R:=⟨_,rfl⟩
 obtain⟨RT',hRT'⟩:∃R,rowE esT (isrt rtC rt)=R:=⟨_,rfl⟩
 obtain⟨MT,hMT⟩:∃R,(isrt rtC rt).map rtF=R:=⟨_,rfl⟩
 obtain⟨NT,hNT⟩:∃R,rt.map rtF=R:=⟨_,rfl⟩
 rw[hRT] at sT cT
 rw[hRT'] at sT eT
 rw[hMT] at eT wT ⊢
 rw[hNT] at cT ⊢
 have dT:rt=[]→NT=[]∧MT=[]:=fun h=>by subst h;exact⟨hNT.symm,hMT.symm⟩
 have key:∀(vQ vP vT:AV),True:=fun _ _ _=>trivial
 by_cases hQ:rq=[]
 ·obtain⟨aQ,bQ⟩:=dQ hQ
  rw[aQ,bQ]
  by_cases hP:rp=[]
  ·obtain⟨aP,bP⟩:=dP hP
   rw[aP,bP]
   by_cases hT:rt=[]
   ·obtain⟨aT,bT⟩:=dT hT
    rw[aT,bT]
    refine qk func15 ntmps15 ?_
    simp (maxSteps:=mS) [-qb]
    refine qg [] _ (k:=?_)
    repeat (first|refine qd _ (hs:=by simp (maxSteps:=mS) [-getElem?_pos,hM,zQ,zP,zT];exact rfl) (k:=?_)|refine qe _ (k:=?_))
    refine qc ?_
    simp (maxSteps:=mS) [-getElem?_pos,nQ,nP,nT,wM,results15]
   ·have cT':=cT hT
    have pT:0<rt.length:=List.length_pos_iff.2 hT
    refine qk func15 ntmps15 ?_
    simp (maxSteps:=mS) [-qb]
    refine qg [] _ (k:=?_)
    repeat (first|refine qd _ (hs:=by simp (maxSteps:=mS) [-getElem?_pos,hM,zQ,zP,cT'];exact rfl) (k:=?_)|refine qe _ (k:=?_))
    refine qc ?_
    simp (maxSteps:=mS) [-getElem?_pos,nQ,nP,sT,eT,wT,pT,wM,results15]
  ·have cP':=cP hP
   have pP:0<rp.length:=List.length_pos_iff.2 hP
   by_cases hT:rt=[]
   ·obtain⟨aT,bT⟩:=dT hT
    rw[aT,bT]
    refine qk func15 ntmps15 ?_
    simp (maxSteps:=mS) [-qb]
    refine qg [] _ (k:=?_)
    repeat (first|refine qd _ (hs:=by simp (maxSteps:=mS) [-getElem?_pos,hM,zQ,cP',zT];exact rfl) (k:=?_)|refine qe _ (k:=?_))
    refine qc ?_
    simp (maxSteps:=mS) [-getElem?_pos,nQ,sP,eP,wP,pP,nT,wM,results15]
   ·have cT':=cT hT
    have pT:0<rt.length:=List.length_pos_iff.2 hT
    refine qk func15 ntmps15 ?_
    simp (maxSteps:=mS) [-qb]
    refine qg [] _ (k:=?_)
    repeat (first|refine qd _ (hs:=by simp (maxSteps:=mS) [-getElem?_pos,hM,zQ,cP',cT'];exact rfl) (k:=?_)|refine qe _ (k:=?_))
    refine qc ?_
    simp (maxSteps:=mS) [-getElem?_pos,nQ,sP,eP,wP,pP,sT,eT,wT,pT,wM,results15]
 ·have cQ':=cQ hQ
  have pQ:0<rq.length:=List.length_pos_iff.2 hQ
  by_cases hP:rp=[]
  ·obtain⟨aP,bP⟩:=dP hP
   rw[aP,bP]
   by_cases hT:rt=[]
   ·obtain⟨aT,bT⟩:=dT hT
    rw[aT,bT]
    refine qk func15 ntmps15 ?_
    simp (maxSteps:=mS) [-qb]
    refine qg [] _ (k:=?_)
    repeat (first|refine qd _ (hs:=by simp (maxSteps:=mS) [-getElem?_pos,hM,cQ',zP,zT];exact rfl) (k:=?_)|refine qe _ (k:=?_))
    refine qc ?_
    simp (maxSteps:=mS) [-getElem?_pos,sQ,eQ,wQ,pQ,nP,nT,wM,results15]
   ·have cT':=cT hT
    have pT:0<rt.length:=List.length_pos_iff.2 hT
    refine qk func15 ntmps15 ?_
    simp (maxSteps:=mS) [-qb]
    refine qg [] _ (k:=?_)
    repeat (first|refine qd _ (hs:=by simp (maxSteps:=mS) [-getElem?_pos,hM,cQ',zP,cT'];exact rfl) (k:=?_)|refine qe _ (k:=?_))
    refine qc ?_
    simp (maxSteps:=mS) [-getElem?_pos,sQ,eQ,wQ,pQ,nP,sT,eT,wT,pT,wM,results15]
  ·have cP':=cP hP
   have pP:0<rp.length:=List.length_pos_iff.2 hP
   by_cases hT:rt=[]
   ·obtain⟨aT,bT⟩:=dT hT
    rw[aT,bT]
    refine qk func15 ntmps15 ?_
    simp (maxSteps:=mS) [-qb]
    refine qg [] _ (k:=?_)
    repeat (first|refine qd _ (hs:=by simp (maxSteps:=mS) [-getElem?_pos,hM,cQ',cP',zT];exact rfl) (k:=?_)|refine qe _ (k:=?_))
    refine qc ?_
    simp (maxSteps:=mS) [-getElem?_pos,sQ,eQ,wQ,pQ,sP,eP,wP,pP,nT,wM,results15]
   ·have cT':=cT hT
    have pT:0<rt.length:=List.length_pos_iff.2 hT
    refine qk func15 ntmps15 ?_
    simp (maxSteps:=mS) [-qb]
    refine qg [] _ (k:=?_)
    repeat (first|refine qd _ (hs:=by simp (maxSteps:=mS) [-getElem?_pos,hM,cQ',cP',cT'];exact rfl) (k:=?_)|refine qe _ (k:=?_))
    refine qc ?_
    simp (maxSteps:=mS) [-getElem?_pos,sQ,eQ,wQ,pQ,sP,eP,wP,pP,sT,eT,wT,pT,wM,results15]
theorem qns (f:Mf) (hf:MfB f) (σ:List (List AV)):ev 15 [mfF f] σ=some (mfF (canonM f),σ):=qvj f.m f.g f.rq f.ex f.rp f.rt hf σ
end Go.Proofs.Tryz.Ai
end
section
namespace Go.AI
section
variable {P:Program} {hh:Hint} {C:Oracle} {CP:Panics}
theorem qev {c a b:Code} {st:St} {K:Ex→St→Prop} (h:c=.seq a b) (k:Post (EXEC P hh C (.seq a b) st) K):Post (EXEC P hh C c st) K:=by rw[h];exact k
theorem qyv {Φ:List (Nat×AV)→Prop} {c a b:Code} {st:St} {r:AV} (h:c=.seq a b) (k:PY P hh C CP Φ (.seq a b) st r):PY P hh C CP Φ c st r:=by rw[h];exact k
end
def dropSeq:Nat→Code→Code
 | n+1,.seq _ b=>dropSeq n b
 | _,c=>c
end Go.AI
namespace Go.Proofs.Tryz.Ai
open Go Go.AI Go.Proofs
noncomputable def restC:Code:=dropSeq 3 (Tryz.f9.body.getD .skip)
theorem qjl (σ:List (List AV)) (x y:List AV):(σ++[x]).set σ.length y=σ++[y]:=by simp
structure RdI (text:List UInt8) (R:Except (Int×Int) Ps) (q:List UInt8×Ps):Prop where
 f:MfB q.2.f
 k:q.2.blk=[]
 m:(lnT q.1).all smpL=true
 l0:0≤q.2.line
 l1:q.2.line+q.1.length≤text.length
 r:readLs q.2 (lnT q.1)=R
theorem RdI.start (text:List UInt8) (hsm:(lnT text).all smpL=true):RdI text (readLs ps0 (lnT text)) (text,ps0) :=
 ⟨⟨by simp[ps0],by simp[ps0],by simp[ps0],by simp[ps0],by simp[ps0],by simp[ps0],by simp[ps0],by simp[ps0],by simp[ps0],by simp[ps0]⟩,rfl,hsm,by simp[ps0],by simp[ps0],rfl⟩
theorem RdI.hd {text:List UInt8} {R:Except (Int×Int) Ps} {s:List UInt8} {p:Ps} (h:RdI text R (s,p)) (hs:s≠[]):smpL (Lib.cut s [10]).1=true∧(lnT (Lib.cut s [10]).2.1).all smpL=true:=by
 have:=h.m
 simp only[qfz hs,List.all_cons,Bool.and_eq_true] at this
 exact this
theorem RdI.next {text:List UInt8} (ht:text.length≤65536) {R:Except (Int×Int) Ps} {s:List UInt8} {p q:Ps} (h:RdI text R (s,p)) (hs:s≠[]) (hr:readP p (Lib.cut s [10]).1=.ok q):RdI text R ((Lib.cut s [10]).2.1,q):=by
 have h1:=h.l1
 have h0:=h.l0
 simp only at h1 h0
 have hc:=(qet s [10]).1
 obtain⟨k1,k2,k3⟩:=qml hr h.f (by omega) h.k (h.hd hs).1
 have hl:=qeu hs
 refine⟨k1,k3,(h.hd hs).2,by simp only;omega,by simp only;omega,?_⟩
 have:=h.r
 simp only[qfz hs,readLs,hr] at this ⊢
 exact this
theorem qyw (p:Ps):(psC p).length=10:=rfl
theorem qyx (t:TypeId) (n:Nat) (xs:List AV):dem (slN t n xs)=.sl .sh xs:=by cases xs<;>rfl
theorem take_psC (p:Ps):List.take 6 ((psC p).map dem)=[.str p.f.m,.str p.f.g,.sl .sh (p.f.rq.map rqF),.sl .sh (p.f.ex.map modA),.sl .sh (p.f.rp.map rpF),.sl .sh (p.f.rt.map rtF)]:=by
 unfold psC
 simp only[List.map_cons,List.map_nil,qyx]
 rfl
def PhiP (b2 b3 b4:Nat) (s2 s3 s4:Option (TypeId×Nat)) (t:List (Nat×AV)):Prop:=AI.look t 2=some (.gp b2 0 s2)∧AI.look t 3=some (.gp b3 0 s3)∧AI.look t 4=some (.gp b4 0 s4)
theorem qyy (b2 b3 b4:Nat) (s2 s3 s4:Option (TypeId×Nat)) (text:List UInt8) (ht:text.length≤65536) (pE:Ps) (hsm:(lnT text).all smpL=true) (hp:readLs ps0 (lnT text)=.ok pE) (hE:endP pE=.ok ()) (σ:List (List AV)) (hb2:b2<σ.length) (hb3:b3<σ.length) (hb4:b4<σ.length) (h23:b2≠b3) (h24:b2≠b4) (h34:b3≠b4)
  (a0 a1 a2 a3 a4 a5:AV) (hs2:σ[b2]? = some [a0,a1,a2,a3,a4,a5]) (hs3:σ[b3]? = some [.int .i64 0]) (hs4:σ[b4]? = some [.int .i64 0]) :
  Post (EXEC Tryz.prog h9 (EV Tryz.prog H T) restC ⟨[(0,.str text),(2,.gp b2 0 s2),(3,.gp b3 0 s3),(4,.gp b4 0 s4)],[],σ⟩) fun e st=>e=.ret∧PhiP b2 b3 b4 s2 s3 s4 st.t∧st.s=((σ.set b2 (mfC (canonM pE.f))).set b3 [.int .i64 0]).set b4 [.int .i64 0]++[psC {pE with line:=0}]:=by
 have h0:=RdI.start text hsm
 rw[hp] at h0
 have ha:∀(J:List (List AV)) b c,σ[b]? = some c→(σ++J)[b]? = some c:=fun J b c h=>qb8 h J
 refine qev (by rfl) ?_
 simp (maxSteps:=4000000) []
 refine qf (I:=fun q:List UInt8×Ps=>⟨[(2,.gp b2 0 s2),(3,.gp b3 0 s3),(4,.gp b4 0 s4),(5,.gp σ.length 0 (some (84,10))),(6,.str q.1)],[],σ++[psC q.2]⟩) (Pr:=RdI text (.ok pE)) (μ:=fun q=>q.1.length) (a:=(text,ps0)) (by simp[psC,ps0,slN]) h0 ?_
 rintro⟨s,p⟩ hI
 have h1:=hI.l1
 have hl0:=hI.l0
 have hf:=hI.f
 have hk:=hI.k
 simp only at h1 hl0 hf hk ⊢
 have hgl:(σ++[psC p])[σ.length]? = some (psC p):=by simp
 by_cases hs:s=[]
 ·subst hs
  have hr:=hI.r
  simp only[qr4,readLs] at hr
  injection hr with hr
  subst hr
  have hEn:=q1e σ.length (some (84,10)) p (σ++[psC p]) hf hl0 (by simp at h1;omega) hgl
  rw[hE] at hEn
  simp only[qjl] at hEn
  have hCa:=qns p.f hf
  simp only[mfFx,canonM] at hCa
  have f2:=fun J=>qb8 hs2 J
  have e2:=fun x J=>qjj hb2 x J
  have f3:∀(x:List AV) J,(σ.set b2 x++J)[b3]? = some [.int .i64 0]:=fun x J=>qb8 (by rw[List.getElem?_set,if_neg h23];exact hs3) J
  have e3:∀(x y:List AV) J,(σ.set b2 x++J).set b3 y=(σ.set b2 x).set b3 y++J:=fun x y J=>qjj (by simpa using hb3) y J
  have f4:∀(x y:List AV) J,((σ.set b2 x).set b3 y++J)[b4]? = some [.int .i64 0]:=fun x y J=>qb8 (by rw[List.getElem?_set,if_neg h34,List.getElem?_set,if_neg h24];exact hs4) J
  have e4:∀(x y z:List AV) J,((σ.set b2 x).set b3 y++J).set b4 z=((σ.set b2 x).set b3 y).set b4 z++J:=fun x y z J=>qjj (by simpa using hb4) z J
  simp (maxSteps:=4000000) [-getElem?_pos,PhiP,hEn,qyw,take_psC,hCa,f2,e2,f3,e3,f4,e4,hgl]
  rfl
 ·have hs':(s==[])=false:=by simpa using hs
  have hC:∀σ,ev 33 [.str s,.str [10]] σ=some (.tup [.str (Lib.cut s [10]).1,.str (Lib.cut s [10]).2.1,.bool (Lib.cut s [10]).2.2],σ):=fun σ=>by rw[qnl];exact qo (by omega)
  have hcl:=(qet s [10]).1
  have hR:=qr1 σ.length (some (84,10)) p (Lib.cut s [10]).1 (σ++[psC p]) hf hl0 (by omega) (by omega) hk (hI.hd hs).1 hgl
  have hr:=hI.r
  simp only[qfz hs,readLs] at hr
  cases hq:readP p (Lib.cut s [10]).1 with
  | error e=>rw[hq] at hr;cases hr
  | ok q =>
   have hn:=hI.next ht hs hq
   have hls:=qeu hs
   rw[hq] at hR
   simp only[qjl] at hR
   obtain⟨⟨c1,c2,c3⟩,hc⟩:∃c,Lib.cut s [10]=c:=⟨_,rfl⟩
   simp only[hc] at hC hR hn hls
   simp (maxSteps:=4000000) [-Prod.exists,hs,hs',hC,hR]
   exact⟨(c2,q),hn,hls,by simp⟩
end Go.Proofs.Tryz.Ai
end
section
namespace Go.Proofs.Tryz.Ai
open Go Go.AI Go.Proofs
theorem qr6 (b2 b3 b4:Nat) (s2 s3 s4:Option (TypeId×Nat)) (text:List UInt8) (ht:text.length≤65536) (e:Int×Int) (hsm:(lnT text).all smpL=true) (hp:readLs ps0 (lnT text)=.error e) (σ:List (List AV)) :
  PY prog h9 (EV prog H T) (PC prog H T) (PhiP b2 b3 b4 s2 s3 s4) restC ⟨[(0,.str text),(2,.gp b2 0 s2),(3,.gp b3 0 s3),(4,.gp b4 0 s4)],[],σ⟩ (fltV e.1 e.2):=by
 have h0:=RdI.start text hsm
 rw[hp] at h0
 refine qyv (by rfl) (qwl (id:=8) (k:=2) ?_)
 simp (maxSteps:=mS) []
 refine qx0 (I:=fun q:List UInt8×Ps=>⟨[(2,.gp b2 0 s2),(3,.gp b3 0 s3),(4,.gp b4 0 s4),(5,.gp σ.length 0 (some (84,10))),(6,.str q.1)],[],σ++[psC q.2]⟩) (Pr:=RdI text (.error e)) (μ:=fun q=>q.1.length) (text,ps0) (by simp[psC,ps0,slN]) h0 ?_
 rintro⟨s,p⟩ hI
 have h1:=hI.l1
 have hl0:=hI.l0
 have hf:=hI.f
 have hk:=hI.k
 simp only at h1 hl0 hf hk ⊢
 have hgl:(σ++[psC p])[σ.length]? = some (psC p):=by simp
 by_cases hs:s=[]
 ·subst hs
  have hr:=hI.r
  simp only[qr4,readLs] at hr
  cases hr
 ·have hs':(s==[])=false:=by simpa using hs
  have hC:∀σ,ev 33 [.str s,.str [10]] σ=some (.tup [.str (Lib.cut s [10]).1,.str (Lib.cut s [10]).2.1,.bool (Lib.cut s [10]).2.2],σ):=fun σ=>by rw[qnl];exact qo (by omega)
  have hcl:=(qet s [10]).1
  have hR:=qr1 σ.length (some (84,10)) p (Lib.cut s [10]).1 (σ++[psC p]) hf hl0 (by omega) (by omega) hk (hI.hd hs).1 hgl
  have hr:=hI.r
  simp only[qfz hs,readLs] at hr
  cases hq:readP p (Lib.cut s [10]).1 with
  | error e' =>
   rw[hq] at hR hr
   simp only at hR hr
   injection hr with hr
   subst hr
   left
   obtain⟨⟨c1,c2,c3⟩,hc⟩:∃c,Lib.cut s [10]=c:=⟨_,rfl⟩
   simp only[hc] at hC hR
   refine qwl (id:=8) (k:=2) ?_
   simp (maxSteps:=mS) [PhiP,hs,hs',hC,hR]
  | ok q =>
   right
   have hn:=hI.next ht hs hq
   have hls:=qeu hs
   rw[hq] at hR
   simp only[qjl] at hR
   obtain⟨⟨c1,c2,c3⟩,hc⟩:∃c,Lib.cut s [10]=c:=⟨_,rfl⟩
   simp only[hc] at hC hR hn hls
   simp (maxSteps:=mS) [-Prod.exists,hs,hs',hC,hR]
   exact⟨(c2,q),hn,hls,by simp⟩
end Go.Proofs.Tryz.Ai
end
section
namespace Go.Proofs.Tryz.Ai
open Go Go.AI Go.RowKit Go.Proofs
theorem qvk (p2 p3 p4:Value) (w:World):CallsD prog 32 #[p2,p3,p4] .returning w fun e u' w'=>(∃v,e=.returned v)∧u'=.returning∧w'=w:=by
 refine callsD_of_wpS func32 (by rfl) ?_
 intro c₀ cs hc
 refine wpS_seq (wpS_region ?_)
 have hr:recoverD (c₀::cs)=none:=by simp[recoverD,hc]
 simp only[wpOpsS,hr,List.range_succ,Region.wanted,execOp,resolve,invoke,Exit.thenS,List.size_toArray,List.length_cons,List.length_nil,List.range_zero,List.nil_append,List.getElem?_toArray,List.getElem?_cons_zero,Nat.zero_add]
 simp[builtin,Sem.run_bind]
 refine wpS_of_wp ?_
 go_wp2
 exact⟨rfl,.returning,by rw[← hc],.tuple #[],by simp[results,results32],⟨_,rfl⟩,rfl,rfl⟩
end Go.Proofs.Tryz.Ai
end
section
namespace Go.Proofs.Tryz.Ai
open Go Go.AI Go.Proofs
theorem qmt (t:TypeId) (n:Nat) (A B:List AV) (x:AV):slN t n (A++x::B)=.sl (.ex t n) (A++x::B):=by cases A<;>rfl
theorem qfb (t:TypeId) (n:Nat) (xs:List AV):∃o,slN t n xs=.sl o xs:=by cases xs<;>exact⟨_,rfl⟩
theorem qvr (a b:Rt) (ha:qcu a) (hb:qcu b) (σ):ev 69 [rtF a,rtF b] σ=some (.bool (decide (rtC a b<0)),σ):=by
 have h1:=qcr a.1 b.1 (by have:=ha.1;omega) (by have:=hb.1;omega)
 have h2:=qcr a.2 b.2 (by have:=ha.2;omega) (by have:=hb.2;omega)
 have hR:rtC a b=orI (cmpB a.1 b.1) (cmpB a.2 b.2):=rfl
 obtain⟨a1,a2⟩:=a
 obtain⟨b1,b2⟩:=b
 simp only at h1 h2 hR
 obtain⟨c1,hc1⟩:∃c,cmpB a1 b1=c:=⟨_,rfl⟩
 obtain⟨c2,hc2⟩:∃c,cmpB a2 b2=c:=⟨_,rfl⟩
 rw[hc1] at h1 hR
 rw[hc2] at h2 hR
 rw[hR,rtFx,rtFx]
 refine qk func69 ntmps69 ?_
 by_cases z1:c1<0
 ·have hO:orI c1 c2=c1:=if_neg (by omega)
  simp (maxSteps:=mS) [h1,z1,hO,results69]
 ·by_cases z2:c1=0
  ·subst z2
   have hO:orI 0 c2=c2:=rfl
   simp (maxSteps:=mS) [h1,h2,hO,results69]
  ·have hO:orI c1 c2=c1:=if_neg z2
   simp (maxSteps:=mS) [h1,z1,z2,hO,results69]
theorem qso (m g:List UInt8) (rq:List Rq) (ex:List (List UInt8×List UInt8)) (rp:List Rp) (rt:List Rt) (hf:MfB ⟨m,g,rq,ex,rp,rt⟩) (σ:List (List AV)) :
  ev 20 [mfF ⟨m,g,rq,ex,rp,rt⟩] σ=some (mfF (canonM ⟨m,g,rq,ex,rp,rt⟩),σ):=by
 have hlq:=hf.lq
 have hle:=hf.le
 have hlp:=hf.lp
 have hlt:=hf.lt
 simp only at hlq hle hlp hlt
 have hexQ:∀x∈ex,modQ x:=fun x hx=>⟨by have:=(hf.ex x hx).1;omega,by have:=(hf.ex x hx).2;omega⟩
 simp only[mfFx,canonM]
 refine qk func20 ntmps20 ?_
 simp (maxSteps:=mS) [-Prod.forall]
 refine qf (I:=fun k:Nat=>⟨[(1,.lp 1 0),(2,.lp 2 0),(3,.lp 3 0),(4,.int .i64 k)],[(1,[.str m,.str g,.sl .sh (rq.map rqF),.sl .sh (ex.map modA),.sl .sh (rp.map rpF),.sl .sh (rt.map rtF)]),(2,[.str [],.str [],.sl .nil [],.sl .nil [],.sl .nil [],.sl .nil []]),(3,[.str m,.str g,slN 94 3 ((isrt rqC (rq.take k)).map rqF),.sl .nil [],.sl .nil [],.sl .nil []])],σ⟩) (Pr:=fun k=>k≤rq.length) (μ:=fun k=>rq.length-k) (a:=0) (by simp[isrt,slN]) (by simp) ?_
 intro k hk
 by_cases hc:k<rq.length
 ·obtain⟨x,hx⟩:=getS hc
  have tp:=TP.rqC
  have hQx:=hf.rq x (List.mem_of_getElem? hx)
  have hS:isrt rqC (rq.take (k+1))=mrg rqC (isrt rqC (rq.take k)) [x]:=by
   rw[List.take_add_one,hx];exact qda tp _ _
  have hSs:=qbe tp (rq.take k)
  have hSl:(isrt rqC (rq.take k)).length=k:=by rw[qp];simp;omega
  have hSQ:=fun y (hy:y∈isrt rqC (rq.take k))=>hf.rq y (List.mem_of_mem_take (qac.1 hy))
  have hkl:k≤2^29:=by omega
  generalize isrt rqC (rq.take k)=S at *
  obtain⟨o,ho⟩:=qfb 94 3 (S.map rqF)
  rw[ho]
  simp (maxSteps:=mS) [-Prod.forall,hc,hSl]
  refine qf (I:=fun u:Nat=>⟨[(1,.lp 1 0),(2,.lp 2 0),(3,.lp 3 0),(4,.int .i64 k),(5,.int .i64 u)],[(1,[.str m,.str g,.sl .sh (rq.map rqF),.sl .sh (ex.map modA),.sl .sh (rp.map rpF),.sl .sh (rt.map rtF)]),(2,[.str [],.str [],.sl .nil [],.sl .nil [],.sl .nil [],.sl .nil []]),(3,[.str m,.str g,.sl o (S.map rqF),.sl .nil [],.sl .nil [],.sl .nil []])],σ⟩) (Pr:=fun u=>u≤k∧∀v∈S.drop u,rqC x v<0) (μ:=fun u=>u) (a:=k) (by simp) (by simp[← hSl]) ?_
  rintro u ⟨hu,hV⟩
  have hfin:(∀y,(S.take u).getLast? = some y→¬rqC x y<0)→isrt rqC (rq.take (k+1))=S.take u++x::S.drop u:=by
   intro hq
   rw[hS]
   have:S=S.take u++S.drop u:=(List.take_append_drop u S).symm
   conv=>lhs;rw[this]
   refine qe3 (fun y hy=>?_) hV
   obtain⟨i,hi,hy⟩:=qan hy
   obtain⟨z,hz⟩:∃z,S[u-1]? = some z:=⟨_,List.getElem?_eq_getElem (by omega)⟩
   have h1:=hq z (by
    obtain⟨w,rfl⟩:∃w,u=w+1:=⟨u-1,by omega⟩
    rw[List.take_add_one,show S[w]? = some z from hz];simp)
   exact tp.nlt.2 (tp.trans _ _ _ (qbj tp hSs (by omega) hy hz) (tp.nlt.1 h1))
  have w1:=wr1 k (by omega)
  have ku:u≤S.length:=by omega
  cases u with
  | zero =>
   have hf0:=hfin (by simp)
   have hSl2:S.length+1≤most:=by unfold most;omega
   have hSl3:1+S.length≤most:=by unfold most;omega
   simp (maxSteps:=mS) [-Prod.forall,-qb]
   refine qg [] _ (k:=?_)
   repeat (first|refine qd _ (hs:=by simp (maxSteps:=mS) [];exact rfl) (k:=?_)|refine qaj (by rfl) (by rfl) ?_)
   refine qc ?_
   simp (maxSteps:=mS) [-getElem?_pos,hx,w1,rqF,hSl2,hSl3]
   repeat (rw[qo];rotate_left;(· (try unfold most);omega);simp (maxSteps:=mS) [-getElem?_pos,hx,w1,rqF,hSl2,hSl3])
   exact⟨k+1,by omega,by omega,by simp,by rw[hf0];simp[rqF,slN]⟩
  | succ w =>
   obtain⟨y,hy⟩:∃y,S[w]? = some y:=⟨_,List.getElem?_eq_getElem (by omega)⟩
   have hQy:=hSQ y (List.mem_of_getElem? hy)
   have hcmp:Op.bytesLess x.1 y.1=decide (rqC x y<0):=bytesLess_eq x.1 y.1
   have p4:w<S.length:=by omega
   obtain⟨v,hv⟩:∃v,w+1=v:=⟨_,rfl⟩
   have hv2:(w:Int)+1=(v:Int):=by omega
   have w3:IntKind.i64.wrap ((v:Int)-1)=(w:Int):=by rw[qh (by omega)];omega
   have p6:0<v:=by omega
   have kv:v≤S.length:=by omega
   simp (maxSteps:=mS) [-Prod.forall,-qb,hv2]
   refine qg [] _ (k:=?_)
   repeat (first|refine qd _ (hs:=by simp (maxSteps:=mS) [-getElem?_pos,hc,hx,hy,w3,p4,p6,hcmp,rqF];exact rfl) (k:=?_)|refine qaj (by rfl) (by rfl) ?_)
   refine qc ?_
   by_cases hlt:rqC x y<0
   ·have hV2:∀v∈S.drop w,rqC x v<0:=by
     have hd:S.drop w=y::S.drop (w+1):=by rw[List.drop_eq_getElem_cons (by omega)];congr 1;exact (List.getElem?_eq_some_iff.1 hy).2
     rw[hd]
     intro v hv
     rcases List.mem_cons.1 hv with rfl|hv
     ·exact hlt
     ·exact hV v hv
    have hgt:rqC x y<0:=hlt
    simp (maxSteps:=mS) [-Prod.forall,hgt,w3]
    exact⟨by omega,hV2⟩
   ·have hf0:=hfin (fun z hz=>by
     have:(S.take (w+1)).getLast? = some y:=by rw[List.take_add_one,hy];simp
     rw[this] at hz;injection hz with hz;subst hz;exact hlt)
    have hgt:¬rqC x y<0:=hlt
    rw[hv] at hf0
    have hT:List.take v (S.map rqF)=(S.take v).map rqF:=(List.map_take ..).symm
    have hD:List.drop v (S.map rqF)=(S.drop v).map rqF:=(List.map_drop ..).symm
    have lT:(S.take v).length=v:=by simp;omega
    have lD:(S.drop v).length=S.length-v:=by simp
    have hml:(S.map rqF).length=S.length:=by simp
    clear hfin hV hlt hS
    generalize S.take v=A at *
    generalize S.drop v=B at *
    have b1:A.length+1≤most:=by unfold most;omega
    have b2:A.length+1+B.length≤most:=by unfold most;omega
    have b3:A.length≤most:=by unfold most;omega
    simp (maxSteps:=mS) [-getElem?_pos,hgt,hx,w1,kv,hT,hD,rqF,b1,b2,b3]
    repeat (rw[qo];rotate_left;(· (try unfold most);omega);simp (maxSteps:=mS) [-getElem?_pos,hgt,hx,w1,kv,hT,hD,rqF,b1,b2,b3])
    exact⟨k+1,by omega,by omega,by simp,by rw[hf0];simp[rqF,qmt]⟩
 ·have hk':rq.take k=rq:=List.take_of_length_le (by omega)
  rw[hk']
  obtain⟨oQ,hoQ⟩:=qfb 94 3 ((isrt rqC rq).map rqF)
  rw[hoQ]
  have hM:=qkw ex (by omega) hexQ
  simp (maxSteps:=mS) [-Prod.forall,hc,hM]
  refine qf (I:=fun k:Nat=>⟨[(1,.lp 1 0),(2,.lp 2 0),(3,.lp 3 0),(7,.int .i64 k)],[(1,[.str m,.str g,.sl .sh (rq.map rqF),.sl .sh (ex.map modA),.sl .sh (rp.map rpF),.sl .sh (rt.map rtF)]),(2,[.str [],.str [],.sl .nil [],.sl .nil [],.sl .nil [],.sl .nil []]),(3,[.str m,.str g,.sl oQ ((isrt rqC rq).map rqF),.sl (.ex 52 2) ((isrt modC ex).map modA),slN 95 4 ((isrt rpC (rp.take k)).map rpF),.sl .nil []])],σ⟩) (Pr:=fun k=>k≤rp.length) (μ:=fun k=>rp.length-k) (a:=0) (by simp[isrt,slN]) (by simp) ?_
  intro k hk
  by_cases hc:k<rp.length
  ·obtain⟨x,hx⟩:=getS hc
   have tp:=TP.rpC
   have hQx:=hf.rp x (List.mem_of_getElem? hx)
   have hS:isrt rpC (rp.take (k+1))=mrg rpC (isrt rpC (rp.take k)) [x]:=by
    rw[List.take_add_one,hx];exact qda tp _ _
   have hSs:=qbe tp (rp.take k)
   have hSl:(isrt rpC (rp.take k)).length=k:=by rw[qp];simp;omega
   have hSQ:=fun y (hy:y∈isrt rpC (rp.take k))=>hf.rp y (List.mem_of_mem_take (qac.1 hy))
   have hkl:k≤2^29:=by omega
   generalize isrt rpC (rp.take k)=S at *
   obtain⟨o,ho⟩:=qfb 95 4 (S.map rpF)
   rw[ho]
   simp (maxSteps:=mS) [-Prod.forall,hc,hSl]
   refine qf (I:=fun u:Nat=>⟨[(1,.lp 1 0),(2,.lp 2 0),(3,.lp 3 0),(7,.int .i64 k),(8,.int .i64 u)],[(1,[.str m,.str g,.sl .sh (rq.map rqF),.sl .sh (ex.map modA),.sl .sh (rp.map rpF),.sl .sh (rt.map rtF)]),(2,[.str [],.str [],.sl .nil [],.sl .nil [],.sl .nil [],.sl .nil []]),(3,[.str m,.str g,.sl oQ ((isrt rqC rq).map rqF),.sl (.ex 52 2) ((isrt modC ex).map modA),.sl o (S.map rpF),.sl .nil []])],σ⟩) (Pr:=fun u=>u≤k∧∀v∈S.drop u,rpC x v<0) (μ:=fun u=>u) (a:=k) (by simp) (by simp[← hSl]) ?_
   rintro u ⟨hu,hV⟩
   have hfin:(∀y,(S.take u).getLast? = some y→¬rpC x y<0)→isrt rpC (rp.take (k+1))=S.take u++x::S.drop u:=by
    intro hq
    rw[hS]
    have:S=S.take u++S.drop u:=(List.take_append_drop u S).symm
    conv=>lhs;rw[this]
    refine qe3 (fun y hy=>?_) hV
    obtain⟨i,hi,hy⟩:=qan hy
    obtain⟨z,hz⟩:∃z,S[u-1]? = some z:=⟨_,List.getElem?_eq_getElem (by omega)⟩
    have h1:=hq z (by
     obtain⟨w,rfl⟩:∃w,u=w+1:=⟨u-1,by omega⟩
     rw[List.take_add_one,show S[w]? = some z from hz];simp)
    exact tp.nlt.2 (tp.trans _ _ _ (qbj tp hSs (by omega) hy hz) (tp.nlt.1 h1))
   have w1:=wr1 k (by omega)
   have ku:u≤S.length:=by omega
   cases u with
   | zero =>
    have hf0:=hfin (by simp)
    have hSl2:S.length+1≤most:=by unfold most;omega
    have hSl3:1+S.length≤most:=by unfold most;omega
    simp (maxSteps:=mS) [-Prod.forall,-qb]
    refine qg [] _ (k:=?_)
    repeat (first|refine qd _ (hs:=by simp (maxSteps:=mS) [];exact rfl) (k:=?_)|refine qaj (by rfl) (by rfl) ?_)
    refine qc ?_
    simp (maxSteps:=mS) [-getElem?_pos,hx,w1,rpF,hSl2,hSl3]
    repeat (rw[qo];rotate_left;(· (try unfold most);omega);simp (maxSteps:=mS) [-getElem?_pos,hx,w1,rpF,hSl2,hSl3])
    exact⟨k+1,by omega,by omega,by simp,by rw[hf0];simp[rpF,slN]⟩
   | succ w =>
    obtain⟨y,hy⟩:∃y,S[w]? = some y:=⟨_,List.getElem?_eq_getElem (by omega)⟩
    have hQy:=hSQ y (List.mem_of_getElem? hy)
    have hcmp:=qno x.1 y.1 ⟨by have:=hQx.1.1;omega,by have:=hQx.1.2;omega⟩ ⟨by have:=hQy.1.1;omega,by have:=hQy.1.2;omega⟩
    have hCC:rpC x y=modC x.1 y.1:=rfl
    rw[← hCC] at hcmp
    have p4:w<S.length:=by omega
    obtain⟨v,hv⟩:∃v,w+1=v:=⟨_,rfl⟩
    have hv2:(w:Int)+1=(v:Int):=by omega
    have w3:IntKind.i64.wrap ((v:Int)-1)=(w:Int):=by rw[qh (by omega)];omega
    have p6:0<v:=by omega
    have kv:v≤S.length:=by omega
    simp (maxSteps:=mS) [-Prod.forall,-qb,hv2]
    refine qg [] _ (k:=?_)
    repeat (first|refine qd _ (hs:=by simp (maxSteps:=mS) [-getElem?_pos,hc,hx,hy,w3,p4,p6,hcmp,rpF];exact rfl) (k:=?_)|refine qaj (by rfl) (by rfl) ?_)
    refine qc ?_
    by_cases hlt:rpC x y<0
    ·have hV2:∀v∈S.drop w,rpC x v<0:=by
      have hd:S.drop w=y::S.drop (w+1):=by rw[List.drop_eq_getElem_cons (by omega)];congr 1;exact (List.getElem?_eq_some_iff.1 hy).2
      rw[hd]
      intro v hv
      rcases List.mem_cons.1 hv with rfl|hv
      ·exact hlt
      ·exact hV v hv
     have hgt:rpC x y<0:=hlt
     simp (maxSteps:=mS) [-Prod.forall,hgt,w3]
     exact⟨by omega,hV2⟩
    ·have hf0:=hfin (fun z hz=>by
      have:(S.take (w+1)).getLast? = some y:=by rw[List.take_add_one,hy];simp
      rw[this] at hz;injection hz with hz;subst hz;exact hlt)
     have hgt:¬rpC x y<0:=hlt
     rw[hv] at hf0
     have hT:List.take v (S.map rpF)=(S.take v).map rpF:=(List.map_take ..).symm
     have hD:List.drop v (S.map rpF)=(S.drop v).map rpF:=(List.map_drop ..).symm
     have lT:(S.take v).length=v:=by simp;omega
     have lD:(S.drop v).length=S.length-v:=by simp
     have hml:(S.map rpF).length=S.length:=by simp
     clear hfin hV hlt hS
     generalize S.take v=A at *
     generalize S.drop v=B at *
     have b1:A.length+1≤most:=by unfold most;omega
     have b2:A.length+1+B.length≤most:=by unfold most;omega
     have b3:A.length≤most:=by unfold most;omega
     simp (maxSteps:=mS) [-getElem?_pos,hgt,hx,w1,kv,hT,hD,rpF,b1,b2,b3]
     repeat (rw[qo];rotate_left;(· (try unfold most);omega);simp (maxSteps:=mS) [-getElem?_pos,hgt,hx,w1,kv,hT,hD,rpF,b1,b2,b3])
     exact⟨k+1,by omega,by omega,by simp,by rw[hf0];simp[rpF,qmt]⟩
  ·have hk':rp.take k=rp:=List.take_of_length_le (by omega)
   rw[hk']
   obtain⟨oP,hoP⟩:=qfb 95 4 ((isrt rpC rp).map rpF)
   rw[hoP]
   simp (maxSteps:=mS) [-Prod.forall,hc]
   refine qf (I:=fun k:Nat=>⟨[(1,.lp 1 0),(2,.lp 2 0),(3,.lp 3 0),(10,.int .i64 k)],[(1,[.str m,.str g,.sl .sh (rq.map rqF),.sl .sh (ex.map modA),.sl .sh (rp.map rpF),.sl .sh (rt.map rtF)]),(2,[.str [],.str [],.sl .nil [],.sl .nil [],.sl .nil [],.sl .nil []]),(3,[.str m,.str g,.sl oQ ((isrt rqC rq).map rqF),.sl (.ex 52 2) ((isrt modC ex).map modA),.sl oP ((isrt rpC rp).map rpF),slN 96 2 ((isrt rtC (rt.take k)).map rtF)])],σ⟩) (Pr:=fun k=>k≤rt.length) (μ:=fun k=>rt.length-k) (a:=0) (by simp[isrt,slN]) (by simp) ?_
   intro k hk
   by_cases hc:k<rt.length
   ·obtain⟨x,hx⟩:=getS hc
    have tp:=TO.rtC.tp
    have hQx:=hf.rt x (List.mem_of_getElem? hx)
    have hS:isrt rtC (rt.take (k+1))=mrg rtC (isrt rtC (rt.take k)) [x]:=by
     rw[List.take_add_one,hx];exact qda tp _ _
    have hSs:=qbe tp (rt.take k)
    have hSl:(isrt rtC (rt.take k)).length=k:=by rw[qp];simp;omega
    have hSQ:=fun y (hy:y∈isrt rtC (rt.take k))=>hf.rt y (List.mem_of_mem_take (qac.1 hy))
    have hkl:k≤2^29:=by omega
    generalize isrt rtC (rt.take k)=S at *
    obtain⟨o,ho⟩:=qfb 96 2 (S.map rtF)
    rw[ho]
    simp (maxSteps:=mS) [-Prod.forall,hc,hSl]
    refine qf (I:=fun u:Nat=>⟨[(1,.lp 1 0),(2,.lp 2 0),(3,.lp 3 0),(10,.int .i64 k),(11,.int .i64 u)],[(1,[.str m,.str g,.sl .sh (rq.map rqF),.sl .sh (ex.map modA),.sl .sh (rp.map rpF),.sl .sh (rt.map rtF)]),(2,[.str [],.str [],.sl .nil [],.sl .nil [],.sl .nil [],.sl .nil []]),(3,[.str m,.str g,.sl oQ ((isrt rqC rq).map rqF),.sl (.ex 52 2) ((isrt modC ex).map modA),.sl oP ((isrt rpC rp).map rpF),.sl o (S.map rtF)])],σ⟩) (Pr:=fun u=>u≤k∧∀v∈S.drop u,rtC x v<0) (μ:=fun u=>u) (a:=k) (by simp) (by simp[← hSl]) ?_
    rintro u ⟨hu,hV⟩
    have hfin:(∀y,(S.take u).getLast? = some y→¬rtC x y<0)→isrt rtC (rt.take (k+1))=S.take u++x::S.drop u:=by
     intro hq
     rw[hS]
     have:S=S.take u++S.drop u:=(List.take_append_drop u S).symm
     conv=>lhs;rw[this]
     refine qe3 (fun y hy=>?_) hV
     obtain⟨i,hi,hy⟩:=qan hy
     obtain⟨z,hz⟩:∃z,S[u-1]? = some z:=⟨_,List.getElem?_eq_getElem (by omega)⟩
     have h1:=hq z (by
      obtain⟨w,rfl⟩:∃w,u=w+1:=⟨u-1,by omega⟩
      rw[List.take_add_one,show S[w]? = some z from hz];simp)
     exact tp.nlt.2 (tp.trans _ _ _ (qbj tp hSs (by omega) hy hz) (tp.nlt.1 h1))
    have w1:=wr1 k (by omega)
    have ku:u≤S.length:=by omega
    cases u with
    | zero =>
     have hf0:=hfin (by simp)
     have hSl2:S.length+1≤most:=by unfold most;omega
     have hSl3:1+S.length≤most:=by unfold most;omega
     simp (maxSteps:=mS) [-Prod.forall,-qb]
     refine qg [] _ (k:=?_)
     repeat (first|refine qd _ (hs:=by simp (maxSteps:=mS) [];exact rfl) (k:=?_)|refine qaj (by rfl) (by rfl) ?_)
     refine qc ?_
     simp (maxSteps:=mS) [-getElem?_pos,hx,w1,rtF,hSl2,hSl3]
     repeat (rw[qo];rotate_left;(· (try unfold most);omega);simp (maxSteps:=mS) [-getElem?_pos,hx,w1,rtF,hSl2,hSl3])
     exact⟨k+1,by omega,by omega,by simp,by rw[hf0];simp[rtF,slN]⟩
    | succ w =>
     obtain⟨y,hy⟩:∃y,S[w]? = some y:=⟨_,List.getElem?_eq_getElem (by omega)⟩
     have hQy:=hSQ y (List.mem_of_getElem? hy)
     have hcmp:=qvr x y hQx hQy
     simp only[rtFx] at hcmp
     have p4:w<S.length:=by omega
     obtain⟨v,hv⟩:∃v,w+1=v:=⟨_,rfl⟩
     have hv2:(w:Int)+1=(v:Int):=by omega
     have w3:IntKind.i64.wrap ((v:Int)-1)=(w:Int):=by rw[qh (by omega)];omega
     have p6:0<v:=by omega
     have kv:v≤S.length:=by omega
     simp (maxSteps:=mS) [-Prod.forall,-qb,hv2]
     refine qg [] _ (k:=?_)
     repeat (first|refine qd _ (hs:=by simp (maxSteps:=mS) [-getElem?_pos,hc,hx,hy,w3,p4,p6,hcmp,rtF];exact rfl) (k:=?_)|refine qaj (by rfl) (by rfl) ?_)
     refine qc ?_
     by_cases hlt:rtC x y<0
     ·have hV2:∀v∈S.drop w,rtC x v<0:=by
       have hd:S.drop w=y::S.drop (w+1):=by rw[List.drop_eq_getElem_cons (by omega)];congr 1;exact (List.getElem?_eq_some_iff.1 hy).2
       rw[hd]
       intro v hv
       rcases List.mem_cons.1 hv with rfl|hv
       ·exact hlt
       ·exact hV v hv
      have hgt:rtC x y<0:=hlt
      simp (maxSteps:=mS) [-Prod.forall,hgt,w3]
      exact⟨by omega,hV2⟩
     ·have hf0:=hfin (fun z hz=>by
       have:(S.take (w+1)).getLast? = some y:=by rw[List.take_add_one,hy];simp
       rw[this] at hz;injection hz with hz;subst hz;exact hlt)
      have hgt:¬rtC x y<0:=hlt
      rw[hv] at hf0
      have hT:List.take v (S.map rtF)=(S.take v).map rtF:=(List.map_take ..).symm
      have hD:List.drop v (S.map rtF)=(S.drop v).map rtF:=(List.map_drop ..).symm
      have lT:(S.take v).length=v:=by simp;omega
      have lD:(S.drop v).length=S.length-v:=by simp
      have hml:(S.map rtF).length=S.length:=by simp
      clear hfin hV hlt hS
      generalize S.take v=A at *
      generalize S.drop v=B at *
      have b1:A.length+1≤most:=by unfold most;omega
      have b2:A.length+1+B.length≤most:=by unfold most;omega
      have b3:A.length≤most:=by unfold most;omega
      simp (maxSteps:=mS) [-getElem?_pos,hgt,hx,w1,kv,hT,hD,rtF,b1,b2,b3]
      repeat (rw[qo];rotate_left;(· (try unfold most);omega);simp (maxSteps:=mS) [-getElem?_pos,hgt,hx,w1,kv,hT,hD,rtF,b1,b2,b3])
      exact⟨k+1,by omega,by omega,by simp,by rw[hf0];simp[rtF,qmt]⟩
   ·have hk':rt.take k=rt:=List.take_of_length_le (by omega)
    rw[hk']
    obtain⟨oT,hoT⟩:=qfb 96 2 ((isrt rtC rt).map rtF)
    rw[hoT]
    simp (maxSteps:=mS) [hc,results20]
theorem qk7 (f:Mf) (hf:MfB f) (σ:List (List AV)):ev 20 [mfF f] σ=some (mfF (canonM f),σ):=qso f.m f.g f.rq f.ex f.rp f.rt hf σ
end Go.Proofs.Tryz.Ai
end
section
namespace Go.Proofs.Tryz.Ai
open Go Go.AI Go.Proofs
theorem qvs (f:Mf):200<mostM f↔(200<f.rq.length∨200<f.ex.length∨200<f.rp.length∨200<f.rt.length):=by
 unfold mostM mxI
 (repeat' split)<;>omega
theorem qpa (s:List UInt8):minorD s<0↔minorB s=none:=by
 unfold minorD
 cases minorB s with
 | none=>simp
 | some k=>simp
theorem qdw {α:Type} {own:α→Int} {same:α→α→Bool} {l:List α} {i:Nat} {x:α} (hx:l[i]? = some x):eachF own same (l.take i) (l.drop i)=orI (orI (own x) (if (l.take i).any (same x) then 12 else 0)) (eachF own same (l.take (i+1)) (l.drop (i+1))):=by
 obtain⟨hi,he⟩:=List.getElem?_eq_some_iff.1 hx
 rw[List.drop_eq_getElem_cons hi,he,eachF,List.take_add_one,hx,fstO2];rfl
theorem qbh {a b:Int} (h:a≠0):orI a b=a:=if_neg h
theorem qcv (b:Int):orI 0 b=b:=rfl
theorem qpb (m g : List UInt8) (rq : List Rq) (ex : List (List UInt8 × List UInt8)) (rp : List Rp) (rt : List Rt) (hf : MfB ⟨m, g, rq, ex, rp, rt⟩) (σ : List (List AV)) :
    ev 24 [mfF ⟨m, g, rq, ex, rp, rt⟩] σ = some (.int .i64 (mfE ⟨m, g, rq, ex, rp, rt⟩), σ) := by
  have hm1 := hf.m
  have hg := hf.g
  have hlq := hf.lq
  have hle := hf.le
  have hlp := hf.lp
  have hlt := hf.lt
  have hbq := hf.rq
  have hbe := hf.ex
  have hbp := hf.rp
  have hbt := hf.rt
  simp only at hm1 hg hlq hle hlp hlt hbq hbe hbp hbt
  have hP := qct m
  have hG := qk6 g hg
  have hGn := qpa g
  have hmo := qvs ⟨m, g, rq, ex, rp, rt⟩
  simp only at hmo
  have hA : mfE ⟨m, g, rq, ex, rp, rt⟩ = orI (fstE [(pathB m : Int), if (g ≠ [] ∧ minorB g = none) then 11 else 0, if 200 < mostM ⟨m, g, rq, ex, rp, rt⟩ then 14 else 0]) (orI (rqsF m [] rq) (fstE [eachE (fun x => (checkB x.1 x.2 : Int)) isM ex, eachE rpE (fun x y => isM x.1 y.1) rp, eachE rtE isM rt])) := rfl
  obtain ⟨ownM, hoM⟩ : ∃ f : List UInt8 × List UInt8 → Int, f = fun x => (checkB x.1 x.2 : Int) := ⟨_, rfl⟩
  obtain ⟨sameM, hsM⟩ : ∃ f : List UInt8 × List UInt8 → List UInt8 × List UInt8 → Bool, f = isM := ⟨_, rfl⟩
  obtain ⟨ownP, hoP⟩ : ∃ f : Rp → Int, f = rpE := ⟨_, rfl⟩
  obtain ⟨sameP, hsP⟩ : ∃ f : Rp → Rp → Bool, f = fun x y => isM x.1 y.1 := ⟨_, rfl⟩
  obtain ⟨ownT, hoT⟩ : ∃ f : Rt → Int, f = rtE := ⟨_, rfl⟩
  obtain ⟨sameT, hsT⟩ : ∃ f : Rt → Rt → Bool, f = isM := ⟨_, rfl⟩
  rw [← hoM, ← hoP, ← hoT, show eachE ownM isM ex = eachF ownM sameM [] ex by rw [hsM]; rfl, show eachE ownP (fun x y => isM x.1 y.1) rp = eachF ownP sameP [] rp by rw [hsP]; rfl, show eachE ownT isM rt = eachF ownT sameT [] rt by rw [hsT]; rfl] at hA
  obtain ⟨RQ, hRQ⟩ : ∃ r, rqsF m [] rq = r := ⟨_, rfl⟩
  obtain ⟨RM, hRM⟩ : ∃ r, eachF ownM sameM [] ex = r := ⟨_, rfl⟩
  obtain ⟨RP, hRP⟩ : ∃ r, eachF ownP sameP [] rp = r := ⟨_, rfl⟩
  obtain ⟨RT, hRT⟩ : ∃ r, eachF ownT sameT [] rt = r := ⟨_, rfl⟩
  rw [hRQ, hRM, hRP, hRT] at hA
  obtain ⟨p, hp⟩ : ∃ p : Int, (pathB m : Int) = p := ⟨_, rfl⟩
  rw [hp] at hP hA
  have hT : fstE [RM, RP, RT] = orI RM (orI RP RT) := by simp [fstE, qek]
  have hh3 : ∀ a b c, fstE [a, b, c] = orI a (orI b c) := fun a b c => by simp [fstE, qek]
  rw [hT, hh3] at hA
  obtain ⟨E, hE⟩ : ∃ E, mfE ⟨m, g, rq, ex, rp, rt⟩ = E := ⟨_, rfl⟩
  rw [hE] at hA
  simp only [mfFx, hE]
  clear hE hT hh3
  obtain ⟨LQ, hLQ⟩ : ∃ L, rq.map rqF = L := ⟨_, rfl⟩
  obtain ⟨LM, hLM⟩ : ∃ L, ex.map modA = L := ⟨_, rfl⟩
  obtain ⟨LP, hLP⟩ : ∃ L, rp.map rpF = L := ⟨_, rfl⟩
  obtain ⟨LT, hLT⟩ : ∃ L, rt.map rtF = L := ⟨_, rfl⟩
  have hmQ : LQ.length = rq.length := by rw [← hLQ]; simp
  have hmM : LM.length = ex.length := by rw [← hLM]; simp
  have hmP : LP.length = rp.length := by rw [← hLP]; simp
  have hmT : LT.length = rt.length := by rw [← hLT]; simp
  have hallQ : allCells 3 LQ := by rw [← hLQ]; simp
  have hallM : allCells 2 LM := by rw [← hLM]; simp
  have hallP : allCells 4 LP := by rw [← hLP]; simp
  have hallT : allCells 2 LT := by rw [← hLT]; simp
  rw [hLQ, hLM, hLP, hLT]
  refine qk func24 ntmps24 ?_
  by_cases zp : p = 0
  · subst zp
    rw [qcv] at hA
    by_cases zg : g ≠ [] ∧ minorB g = none
    · rw [if_pos zg] at hA
      have hE : E = 11 := hA
      have hg1 : (g == []) = false := by simpa using zg.1
      have hg2 := hGn.2 zg.2
      simp (maxSteps := mS) [-Prod.forall, hP, hg1, hG, hg2, hE, results24]
    · rw [if_neg zg, qcv] at hA
      have hgg : (g == []) = true ∨ ((g == []) = false ∧ ¬ minorD g < 0) := by
        by_cases h : g = []
        · left; simpa using h
        · right; exact ⟨by simpa using h, fun hn => zg ⟨h, hGn.1 hn⟩⟩
      by_cases zm : 200 < mostM ⟨m, g, rq, ex, rp, rt⟩
      · rw [if_pos zm] at hA
        have hE : E = 14 := hA
        have h4 := hmo.1 zm
        rw [← hmQ, ← hmM, ← hmP, ← hmT] at h4
        rcases hgg with hg1 | ⟨hg1, hg2⟩ <;> by_cases k1 : 200 < LQ.length
        all_goals first
          | (simp (maxSteps := mS) [-Prod.forall, hP, hg1, k1, hE, results24]; done)
          | (simp (maxSteps := mS) [-Prod.forall, hP, hg1, hG, hg2, k1, hE, results24]; done)
          | (by_cases k2 : 200 < LM.length
             all_goals first
               | (simp (maxSteps := mS) [-Prod.forall, hP, hg1, k1, k2, hE, results24]; done)
               | (simp (maxSteps := mS) [-Prod.forall, hP, hg1, hG, hg2, k1, k2, hE, results24]; done)
               | (by_cases k3 : 200 < LP.length
                  all_goals first
                    | (simp (maxSteps := mS) [-Prod.forall, hP, hg1, k1, k2, k3, hE, results24]; done)
                    | (simp (maxSteps := mS) [-Prod.forall, hP, hg1, hG, hg2, k1, k2, k3, hE, results24]; done)
                    | (have k4 : 200 < LT.length := by omega
                       first
                         | (simp (maxSteps := mS) [-Prod.forall, hP, hg1, k1, k2, k3, k4, hE, results24]; done)
                         | (simp (maxSteps := mS) [-Prod.forall, hP, hg1, hG, hg2, k1, k2, k3, k4, hE, results24]; done))))
      · rw [if_neg zm, qcv] at hA
        have hmo' : ¬ (200 < rq.length ∨ 200 < ex.length ∨ 200 < rp.length ∨ 200 < rt.length) := fun h => zm (hmo.2 h)
        have k1 : ¬ 200 < LQ.length := by omega
        have k2 : ¬ 200 < LM.length := by omega
        have k3 : ¬ 200 < LP.length := by omega
        have k4 : ¬ 200 < LT.length := by omega
        have hEQ : RQ ≠ 0 → E = RQ := fun h => by rw [hA, qbh h]
        have hA2 : RQ = 0 → E = orI RM (orI RP RT) := fun h => by rw [hA, h, qcv]
        refine qgu (K1 := fun e st => finE prog (H 24) σ Tryz.f24 (some (e, st)) = some (.int .i64 E, σ)) ?_ (fun e st h => h)
        rcases hgg with hg1 | ⟨hg1, hg2⟩
        · simp (maxSteps := mS) [-Prod.forall, hP, hg1, k1, k2, k3, k4]
          refine qf (I := fun i : Nat => ⟨[(1, .lp 1 0), (5, .int .i64 i)], [(1, [.str m, .str g, .sl .sh LQ, .sl .sh LM, .sl .sh LP, .sl .sh LT])], σ⟩) (Pr := fun i => i ≤ rq.length ∧ rqsF m (rq.take i) (rq.drop i) = RQ) (μ := fun i => rq.length - i) (a := 0) (by simp) ⟨by simp, by simpa using hRQ⟩ ?_
          rintro i ⟨hi, hI⟩
          have w1 := wr1 i (by omega)
          by_cases hc : i < rq.length
          · obtain ⟨x, hx⟩ := getS hc
            rw [qg0 hx] at hI
            have hC := qnx (rq.take i) (by simp; omega) x (hbq x (List.mem_of_getElem? hx))
            have htk : (rq.take i).map rqF = LQ.take i := by rw [← hLQ, List.map_take]
            rw [htk] at hC
            obtain ⟨C, hCC⟩ : ∃ C, (checkB x.1 x.2.1 : Int) = C := ⟨_, rfl⟩
            obtain ⟨b, hb⟩ : ∃ b, (rq.take i).any (isQ x.1) = b := ⟨_, rfl⟩
            rw [hCC, hb] at hC hI
            rw [fstO2] at hI
            obtain ⟨x1, x2, x3⟩ := x
            have hxL : LQ[i]? = some (.agg [.str x1, .str x2, .bool x3]) := by rw [← hLQ, List.getElem?_map, hx]; rfl
            rw [rqFx] at hC
            have hiL : i ≤ LQ.length := by omega
            have hcL : i < LQ.length := by omega
            simp only at hI hC
            by_cases z1 : orI C (if b = true then 12 else 0) = 0
            · rw [z1] at hC
              have z2 : C = 0 ∧ b = false := by
                unfold orI at z1
                split at z1
                · rename_i hz
                  cases b with
                  | false => exact ⟨hz, rfl⟩
                  | true => simp at z1
                · exact absurd z1 (by assumption)
              obtain ⟨rfl, rfl⟩ := z2
              rw [qcv] at hI
              by_cases e1 : (x1 == m) = true
              · rw [e1] at hI
                simp only [Bool.or_true, if_true] at hI
                rw [qbh (by decide)] at hI
                have hEE : E = _ := (hEQ (by rw [← hI]; first | exact z1 | decide)).trans hI.symm
                simp (maxSteps := mS) [-getElem?_pos, -beq_iff_eq, -qb, hc, hmQ]
                refine qg [] _ (k := ?_)
                repeat (first | refine qd _ (hs := by simp (maxSteps := mS) [-getElem?_pos, -beq_iff_eq, hcL, hiL, hallQ, hxL, hC]; exact rfl) (k := ?_) | refine qe _ (k := ?_))
                refine qc ?_
                simp (maxSteps := mS) [-getElem?_pos, -beq_iff_eq, -qb]
                refine qg [] _ (k := ?_)
                repeat (first | refine qd _ (hs := by simp (maxSteps := mS) [-getElem?_pos, -beq_iff_eq, hcL, hiL, hallQ, hxL, e1]; exact rfl) (k := ?_) | refine qe _ (k := ?_))
                refine qc ?_
                simp (maxSteps := mS) [hEE, results24]
              · have e1' : (x1 == m) = false := by simpa using e1
                rw [e1'] at hI
                simp only [Bool.or_false, Bool.false_eq_true, if_false] at hI
                rw [qcv] at hI
                simp (maxSteps := mS) [-getElem?_pos, -beq_iff_eq, -beq_eq_false_iff_ne, -Prod.exists, -Prod.forall, -qb, hc, hmQ]
                refine qg [] _ (k := ?_)
                repeat (first | refine qd _ (hs := by simp (maxSteps := mS) [-getElem?_pos, -beq_iff_eq, -beq_eq_false_iff_ne, hcL, hiL, hallQ, hxL, hC]; exact rfl) (k := ?_) | refine qe _ (k := ?_))
                refine qc ?_
                simp (maxSteps := mS) [-getElem?_pos, -beq_iff_eq, -beq_eq_false_iff_ne, -Prod.exists, -Prod.forall, -qb]
                refine qg [] _ (k := ?_)
                repeat (first | refine qd _ (hs := by simp (maxSteps := mS) [-getElem?_pos, -beq_iff_eq, -beq_eq_false_iff_ne, hcL, hiL, hallQ, hxL, e1']; exact rfl) (k := ?_) | refine qe _ (k := ?_))
                refine qc ?_
                simp (maxSteps := mS) [-Prod.exists, -Prod.forall, w1]
                exact ⟨i + 1, ⟨by omega, hI⟩, by omega, by simp⟩
            · obtain ⟨A, hA⟩ : ∃ A, orI C (if b = true then 12 else 0) = A := ⟨_, rfl⟩
              have hAA : orI C (if (b || x1 == m) = true then 12 else 0) = A := by
                rw [← hA]
                unfold orI at z1 ⊢
                split
                · rename_i hz
                  rw [if_pos hz] at z1
                  cases b with
                  | true => rfl
                  | false => simp at z1
                · rfl
              rw [hA] at hC z1
              rw [hAA, qbh z1] at hI
              have hEE : E = _ := (hEQ (by rw [← hI]; first | exact z1 | decide)).trans hI.symm
              simp (maxSteps := mS) [-getElem?_pos, -beq_iff_eq, -beq_eq_false_iff_ne, -qb, hc, hmQ]
              refine qg [] _ (k := ?_)
              repeat (first | refine qd _ (hs := by simp (maxSteps := mS) [-getElem?_pos, -beq_iff_eq, -beq_eq_false_iff_ne, hcL, hiL, hallQ, hxL, hC]; exact rfl) (k := ?_) | refine qe _ (k := ?_))
              refine qc ?_
              simp (maxSteps := mS) [-getElem?_pos, -beq_iff_eq, -beq_eq_false_iff_ne, -qb]
              refine qg [] _ (k := ?_)
              repeat (first | refine qd _ (hs := by simp (maxSteps := mS) [-getElem?_pos, -beq_iff_eq, -beq_eq_false_iff_ne, hcL, hiL, hallQ, hxL, z1]; exact rfl) (k := ?_) | refine qe _ (k := ?_))
              refine qc ?_
              simp (maxSteps := mS) [z1, hEE, results24]
          · have hz : RQ = 0 := by rw [← hI, List.drop_of_length_le (by omega)]; rfl
            have hEM : RM ≠ 0 → E = RM := fun h2 => by rw [hA2 hz, qbh h2]
            have hA3 : RM = 0 → E = orI RP RT := fun h => by rw [hA2 hz, h, qcv]
            simp (maxSteps := mS) [-Prod.forall, hc, hmQ]
            refine qf (I := fun i : Nat => ⟨[(1, .lp 1 0), (6, .int .i64 i)], [(1, [.str m, .str g, .sl .sh LQ, .sl .sh LM, .sl .sh LP, .sl .sh LT])], σ⟩) (Pr := fun i => i ≤ ex.length ∧ eachF ownM sameM (ex.take i) (ex.drop i) = RM) (μ := fun i => ex.length - i) (a := 0) (by simp) ⟨by simp, by simpa using hRM⟩ ?_
            rintro i ⟨hi, hI⟩
            have w1 := wr1 i (by omega)
            by_cases hc : i < ex.length
            · obtain ⟨x, hx⟩ := getS hc
              rw [qdw hx] at hI
              have hC := qny (ex.take i) (by simp; omega) x (hbe x (List.mem_of_getElem? hx))
              have htk : (ex.take i).map modA = LM.take i := by rw [← hLM, List.map_take]
              rw [htk] at hC
              obtain ⟨A, hA⟩ : ∃ A, orI (checkB x.1 x.2 : Int) (if (ex.take i).any (isM x) = true then 12 else 0) = A := ⟨_, rfl⟩
              have hA2 : orI (ownM x) (if (ex.take i).any (sameM x) = true then 12 else 0) = A := by rw [← hA, hoM, hsM]
              rw [hA] at hC
              rw [hA2] at hI
              obtain ⟨x1, x2⟩ := x
              have hxL : LM[i]? = some (.agg [.str x1, .str x2]) := by rw [← hLM, List.getElem?_map, hx]; rfl
              rw [modAx] at hC
              have hiL : i ≤ LM.length := by omega
              have hcL : i < LM.length := by omega
              simp only at hC
              by_cases z1 : A = 0
              · subst z1
                rw [qcv] at hI
                simp (maxSteps := mS) [-getElem?_pos, -Prod.exists, -Prod.forall, -qb, hc, hmM]
                refine qg [] _ (k := ?_)
                repeat (first | refine qd _ (hs := by simp (maxSteps := mS) [-getElem?_pos, hcL, hiL, hallM, hxL, hC]; exact rfl) (k := ?_) | refine qe _ (k := ?_))
                refine qc ?_
                simp (maxSteps := mS) [-Prod.exists, -Prod.forall, w1]
                exact ⟨i + 1, ⟨by omega, hI⟩, by omega, by simp⟩
              · rw [qbh z1] at hI
                have hEE : E = _ := (hEM (by rw [← hI]; first | exact z1 | decide)).trans hI.symm
                simp (maxSteps := mS) [-getElem?_pos, -qb, hc, hmM]
                refine qg [] _ (k := ?_)
                repeat (first | refine qd _ (hs := by simp (maxSteps := mS) [-getElem?_pos, hcL, hiL, hallM, hxL, hC]; exact rfl) (k := ?_) | refine qe _ (k := ?_))
                refine qc ?_
                simp (maxSteps := mS) [z1, hEE, results24]
            · have hz : RM = 0 := by rw [← hI, List.drop_of_length_le (by omega)]; rfl
              have hEP : RP ≠ 0 → E = RP := fun h2 => by rw [hA3 hz, qbh h2]
              have hET0 : RP = 0 → E = RT := fun h => by rw [hA3 hz, h, qcv]
              simp (maxSteps := mS) [-Prod.forall, hc, hmM]
              refine qf (I := fun i : Nat => ⟨[(1, .lp 1 0), (7, .int .i64 i)], [(1, [.str m, .str g, .sl .sh LQ, .sl .sh LM, .sl .sh LP, .sl .sh LT])], σ⟩) (Pr := fun i => i ≤ rp.length ∧ eachF ownP sameP (rp.take i) (rp.drop i) = RP) (μ := fun i => rp.length - i) (a := 0) (by simp) ⟨by simp, by simpa using hRP⟩ ?_
              rintro i ⟨hi, hI⟩
              have w1 := wr1 i (by omega)
              by_cases hc : i < rp.length
              · obtain ⟨x, hx⟩ := getS hc
                rw [qdw hx] at hI
                have hC := qnz (rp.take i) (by simp; omega) x (hbp x (List.mem_of_getElem? hx)).1 (hbp x (List.mem_of_getElem? hx)).2
                have htk : (rp.take i).map rpF = LP.take i := by rw [← hLP, List.map_take]
                rw [htk] at hC
                obtain ⟨A, hA⟩ : ∃ A, orI (rpE x) (if (rp.take i).any (fun y => isM x.1 y.1) = true then 12 else 0) = A := ⟨_, rfl⟩
                have hA2 : orI (ownP x) (if (rp.take i).any (sameP x) = true then 12 else 0) = A := by rw [← hA, hoP, hsP]
                rw [hA] at hC
                rw [hA2] at hI
                obtain ⟨⟨x1, x2⟩, x3, x4⟩ := x
                have hxL : LP[i]? = some (.agg [.str x1, .str x2, .str x3, .str x4]) := by rw [← hLP, List.getElem?_map, hx]; rfl
                rw [rpFx] at hC
                have hiL : i ≤ LP.length := by omega
                have hcL : i < LP.length := by omega
                simp only at hC
                by_cases z1 : A = 0
                · subst z1
                  rw [qcv] at hI
                  simp (maxSteps := mS) [-getElem?_pos, -Prod.exists, -Prod.forall, -qb, hc, hmP]
                  refine qg [] _ (k := ?_)
                  repeat (first | refine qd _ (hs := by simp (maxSteps := mS) [-getElem?_pos, hcL, hiL, hallP, hxL, hC]; exact rfl) (k := ?_) | refine qe _ (k := ?_))
                  refine qc ?_
                  simp (maxSteps := mS) [-Prod.exists, -Prod.forall, w1]
                  exact ⟨i + 1, ⟨by omega, hI⟩, by omega, by simp⟩
                · rw [qbh z1] at hI
                  have hEE : E = _ := (hEP (by rw [← hI]; first | exact z1 | decide)).trans hI.symm
                  simp (maxSteps := mS) [-getElem?_pos, -qb, hc, hmP]
                  refine qg [] _ (k := ?_)
                  repeat (first | refine qd _ (hs := by simp (maxSteps := mS) [-getElem?_pos, hcL, hiL, hallP, hxL, hC]; exact rfl) (k := ?_) | refine qe _ (k := ?_))
                  refine qc ?_
                  simp (maxSteps := mS) [z1, hEE, results24]
              · have hz : RP = 0 := by rw [← hI, List.drop_of_length_le (by omega)]; rfl
                have hET : RT ≠ 0 → E = RT := fun _ => hET0 hz
                have hET1 : E = RT := hET0 hz
                simp (maxSteps := mS) [-Prod.forall, hc, hmP]
                refine qf (I := fun i : Nat => ⟨[(1, .lp 1 0), (8, .int .i64 i)], [(1, [.str m, .str g, .sl .sh LQ, .sl .sh LM, .sl .sh LP, .sl .sh LT])], σ⟩) (Pr := fun i => i ≤ rt.length ∧ eachF ownT sameT (rt.take i) (rt.drop i) = RT) (μ := fun i => rt.length - i) (a := 0) (by simp) ⟨by simp, by simpa using hRT⟩ ?_
                rintro i ⟨hi, hI⟩
                have w1 := wr1 i (by omega)
                by_cases hc : i < rt.length
                · obtain ⟨x, hx⟩ := getS hc
                  rw [qdw hx] at hI
                  have hC := qn0 (rt.take i) (by simp; omega) x (hbt x (List.mem_of_getElem? hx))
                  have htk : (rt.take i).map rtF = LT.take i := by rw [← hLT, List.map_take]
                  rw [htk] at hC
                  obtain ⟨A, hA⟩ : ∃ A, orI (rtE x) (if (rt.take i).any (isM x) = true then 12 else 0) = A := ⟨_, rfl⟩
                  have hA2 : orI (ownT x) (if (rt.take i).any (sameT x) = true then 12 else 0) = A := by rw [← hA, hoT, hsT]
                  rw [hA] at hC
                  rw [hA2] at hI
                  obtain ⟨x1, x2⟩ := x
                  have hxL : LT[i]? = some (.agg [.str x1, .str x2]) := by rw [← hLT, List.getElem?_map, hx]; rfl
                  rw [rtFx] at hC
                  have hiL : i ≤ LT.length := by omega
                  have hcL : i < LT.length := by omega
                  simp only at hC
                  by_cases z1 : A = 0
                  · subst z1
                    rw [qcv] at hI
                    simp (maxSteps := mS) [-getElem?_pos, -Prod.exists, -Prod.forall, -qb, hc, hmT]
                    refine qg [] _ (k := ?_)
                    repeat (first | refine qd _ (hs := by simp (maxSteps := mS) [-getElem?_pos, hcL, hiL, hallT, hxL, hC]; exact rfl) (k := ?_) | refine qe _ (k := ?_))
                    refine qc ?_
                    simp (maxSteps := mS) [-Prod.exists, -Prod.forall, w1]
                    exact ⟨i + 1, ⟨by omega, hI⟩, by omega, by simp⟩
                  · rw [qbh z1] at hI
                    have hEE : E = _ := (hET (by rw [← hI]; first | exact z1 | decide)).trans hI.symm
                    simp (maxSteps := mS) [-getElem?_pos, -qb, hc, hmT]
                    refine qg [] _ (k := ?_)
                    repeat (first | refine qd _ (hs := by simp (maxSteps := mS) [-getElem?_pos, hcL, hiL, hallT, hxL, hC]; exact rfl) (k := ?_) | refine qe _ (k := ?_))
                    refine qc ?_
                    simp (maxSteps := mS) [z1, hEE, results24]
                · have hz : RT = 0 := by rw [← hI, List.drop_of_length_le (by omega)]; rfl
                  have hE0 : E = 0 := by rw [hET1, hz]
                  simp (maxSteps := mS) [hc, hmT, hE0, results24]
        · simp (maxSteps := mS) [-Prod.forall, hP, hg1, hG, hg2, k1, k2, k3, k4]
          refine qf (I := fun i : Nat => ⟨[(1, .lp 1 0), (5, .int .i64 i)], [(1, [.str m, .str g, .sl .sh LQ, .sl .sh LM, .sl .sh LP, .sl .sh LT])], σ⟩) (Pr := fun i => i ≤ rq.length ∧ rqsF m (rq.take i) (rq.drop i) = RQ) (μ := fun i => rq.length - i) (a := 0) (by simp) ⟨by simp, by simpa using hRQ⟩ ?_
          rintro i ⟨hi, hI⟩
          have w1 := wr1 i (by omega)
          by_cases hc : i < rq.length
          · obtain ⟨x, hx⟩ := getS hc
            rw [qg0 hx] at hI
            have hC := qnx (rq.take i) (by simp; omega) x (hbq x (List.mem_of_getElem? hx))
            have htk : (rq.take i).map rqF = LQ.take i := by rw [← hLQ, List.map_take]
            rw [htk] at hC
            obtain ⟨C, hCC⟩ : ∃ C, (checkB x.1 x.2.1 : Int) = C := ⟨_, rfl⟩
            obtain ⟨b, hb⟩ : ∃ b, (rq.take i).any (isQ x.1) = b := ⟨_, rfl⟩
            rw [hCC, hb] at hC hI
            rw [fstO2] at hI
            obtain ⟨x1, x2, x3⟩ := x
            have hxL : LQ[i]? = some (.agg [.str x1, .str x2, .bool x3]) := by rw [← hLQ, List.getElem?_map, hx]; rfl
            rw [rqFx] at hC
            have hiL : i ≤ LQ.length := by omega
            have hcL : i < LQ.length := by omega
            simp only at hI hC
            by_cases z1 : orI C (if b = true then 12 else 0) = 0
            · rw [z1] at hC
              have z2 : C = 0 ∧ b = false := by
                unfold orI at z1
                split at z1
                · rename_i hz
                  cases b with
                  | false => exact ⟨hz, rfl⟩
                  | true => simp at z1
                · exact absurd z1 (by assumption)
              obtain ⟨rfl, rfl⟩ := z2
              rw [qcv] at hI
              by_cases e1 : (x1 == m) = true
              · rw [e1] at hI
                simp only [Bool.or_true, if_true] at hI
                rw [qbh (by decide)] at hI
                have hEE : E = _ := (hEQ (by rw [← hI]; first | exact z1 | decide)).trans hI.symm
                simp (maxSteps := mS) [-getElem?_pos, -beq_iff_eq, -qb, hc, hmQ]
                refine qg [] _ (k := ?_)
                repeat (first | refine qd _ (hs := by simp (maxSteps := mS) [-getElem?_pos, -beq_iff_eq, hcL, hiL, hallQ, hxL, hC]; exact rfl) (k := ?_) | refine qe _ (k := ?_))
                refine qc ?_
                simp (maxSteps := mS) [-getElem?_pos, -beq_iff_eq, -qb]
                refine qg [] _ (k := ?_)
                repeat (first | refine qd _ (hs := by simp (maxSteps := mS) [-getElem?_pos, -beq_iff_eq, hcL, hiL, hallQ, hxL, e1]; exact rfl) (k := ?_) | refine qe _ (k := ?_))
                refine qc ?_
                simp (maxSteps := mS) [hEE, results24]
              · have e1' : (x1 == m) = false := by simpa using e1
                rw [e1'] at hI
                simp only [Bool.or_false, Bool.false_eq_true, if_false] at hI
                rw [qcv] at hI
                simp (maxSteps := mS) [-getElem?_pos, -beq_iff_eq, -beq_eq_false_iff_ne, -Prod.exists, -Prod.forall, -qb, hc, hmQ]
                refine qg [] _ (k := ?_)
                repeat (first | refine qd _ (hs := by simp (maxSteps := mS) [-getElem?_pos, -beq_iff_eq, -beq_eq_false_iff_ne, hcL, hiL, hallQ, hxL, hC]; exact rfl) (k := ?_) | refine qe _ (k := ?_))
                refine qc ?_
                simp (maxSteps := mS) [-getElem?_pos, -beq_iff_eq, -beq_eq_false_iff_ne, -Prod.exists, -Prod.forall, -qb]
                refine qg [] _ (k := ?_)
                repeat (first | refine qd _ (hs := by simp (maxSteps := mS) [-getElem?_pos, -beq_iff_eq, -beq_eq_false_iff_ne, hcL, hiL, hallQ, hxL, e1']; exact rfl) (k := ?_) | refine qe _ (k := ?_))
                refine qc ?_
                simp (maxSteps := mS) [-Prod.exists, -Prod.forall, w1]
                exact ⟨i + 1, ⟨by omega, hI⟩, by omega, by simp⟩
            · obtain ⟨A, hA⟩ : ∃ A, orI C (if b = true then 12 else 0) = A := ⟨_, rfl⟩
              have hAA : orI C (if (b || x1 == m) = true then 12 else 0) = A := by
                rw [← hA]
                unfold orI at z1 ⊢
                split
                · rename_i hz
                  rw [if_pos hz] at z1
                  cases b with
                  | true => rfl
                  | false => simp at z1
                · rfl
              rw [hA] at hC z1
              rw [hAA, qbh z1] at hI
              have hEE : E = _ := (hEQ (by rw [← hI]; first | exact z1 | decide)).trans hI.symm
              simp (maxSteps := mS) [-getElem?_pos, -beq_iff_eq, -beq_eq_false_iff_ne, -qb, hc, hmQ]
              refine qg [] _ (k := ?_)
              repeat (first | refine qd _ (hs := by simp (maxSteps := mS) [-getElem?_pos, -beq_iff_eq, -beq_eq_false_iff_ne, hcL, hiL, hallQ, hxL, hC]; exact rfl) (k := ?_) | refine qe _ (k := ?_))
              refine qc ?_
              simp (maxSteps := mS) [-getElem?_pos, -beq_iff_eq, -beq_eq_false_iff_ne, -qb]
              refine qg [] _ (k := ?_)
              repeat (first | refine qd _ (hs := by simp (maxSteps := mS) [-getElem?_pos, -beq_iff_eq, -beq_eq_false_iff_ne, hcL, hiL, hallQ, hxL, z1]; exact rfl) (k := ?_) | refine qe _ (k := ?_))
              refine qc ?_
              simp (maxSteps := mS) [z1, hEE, results24]
          · have hz : RQ = 0 := by rw [← hI, List.drop_of_length_le (by omega)]; rfl
            have hEM : RM ≠ 0 → E = RM := fun h2 => by rw [hA2 hz, qbh h2]
            have hA3 : RM = 0 → E = orI RP RT := fun h => by rw [hA2 hz, h, qcv]
            simp (maxSteps := mS) [-Prod.forall, hc, hmQ]
            refine qf (I := fun i : Nat => ⟨[(1, .lp 1 0), (6, .int .i64 i)], [(1, [.str m, .str g, .sl .sh LQ, .sl .sh LM, .sl .sh LP, .sl .sh LT])], σ⟩) (Pr := fun i => i ≤ ex.length ∧ eachF ownM sameM (ex.take i) (ex.drop i) = RM) (μ := fun i => ex.length - i) (a := 0) (by simp) ⟨by simp, by simpa using hRM⟩ ?_
            rintro i ⟨hi, hI⟩
            have w1 := wr1 i (by omega)
            by_cases hc : i < ex.length
            · obtain ⟨x, hx⟩ := getS hc
              rw [qdw hx] at hI
              have hC := qny (ex.take i) (by simp; omega) x (hbe x (List.mem_of_getElem? hx))
              have htk : (ex.take i).map modA = LM.take i := by rw [← hLM, List.map_take]
              rw [htk] at hC
              obtain ⟨A, hA⟩ : ∃ A, orI (checkB x.1 x.2 : Int) (if (ex.take i).any (isM x) = true then 12 else 0) = A := ⟨_, rfl⟩
              have hA2 : orI (ownM x) (if (ex.take i).any (sameM x) = true then 12 else 0) = A := by rw [← hA, hoM, hsM]
              rw [hA] at hC
              rw [hA2] at hI
              obtain ⟨x1, x2⟩ := x
              have hxL : LM[i]? = some (.agg [.str x1, .str x2]) := by rw [← hLM, List.getElem?_map, hx]; rfl
              rw [modAx] at hC
              have hiL : i ≤ LM.length := by omega
              have hcL : i < LM.length := by omega
              simp only at hC
              by_cases z1 : A = 0
              · subst z1
                rw [qcv] at hI
                simp (maxSteps := mS) [-getElem?_pos, -Prod.exists, -Prod.forall, -qb, hc, hmM]
                refine qg [] _ (k := ?_)
                repeat (first | refine qd _ (hs := by simp (maxSteps := mS) [-getElem?_pos, hcL, hiL, hallM, hxL, hC]; exact rfl) (k := ?_) | refine qe _ (k := ?_))
                refine qc ?_
                simp (maxSteps := mS) [-Prod.exists, -Prod.forall, w1]
                exact ⟨i + 1, ⟨by omega, hI⟩, by omega, by simp⟩
              · rw [qbh z1] at hI
                have hEE : E = _ := (hEM (by rw [← hI]; first | exact z1 | decide)).trans hI.symm
                simp (maxSteps := mS) [-getElem?_pos, -qb, hc, hmM]
                refine qg [] _ (k := ?_)
                repeat (first | refine qd _ (hs := by simp (maxSteps := mS) [-getElem?_pos, hcL, hiL, hallM, hxL, hC]; exact rfl) (k := ?_) | refine qe _ (k := ?_))
                refine qc ?_
                simp (maxSteps := mS) [z1, hEE, results24]
            · have hz : RM = 0 := by rw [← hI, List.drop_of_length_le (by omega)]; rfl
              have hEP : RP ≠ 0 → E = RP := fun h2 => by rw [hA3 hz, qbh h2]
              have hET0 : RP = 0 → E = RT := fun h => by rw [hA3 hz, h, qcv]
              simp (maxSteps := mS) [-Prod.forall, hc, hmM]
              refine qf (I := fun i : Nat => ⟨[(1, .lp 1 0), (7, .int .i64 i)], [(1, [.str m, .str g, .sl .sh LQ, .sl .sh LM, .sl .sh LP, .sl .sh LT])], σ⟩) (Pr := fun i => i ≤ rp.length ∧ eachF ownP sameP (rp.take i) (rp.drop i) = RP) (μ := fun i => rp.length - i) (a := 0) (by simp) ⟨by simp, by simpa using hRP⟩ ?_
              rintro i ⟨hi, hI⟩
              have w1 := wr1 i (by omega)
              by_cases hc : i < rp.length
              · obtain ⟨x, hx⟩ := getS hc
                rw [qdw hx] at hI
                have hC := qnz (rp.take i) (by simp; omega) x (hbp x (List.mem_of_getElem? hx)).1 (hbp x (List.mem_of_getElem? hx)).2
                have htk : (rp.take i).map rpF = LP.take i := by rw [← hLP, List.map_take]
                rw [htk] at hC
                obtain ⟨A, hA⟩ : ∃ A, orI (rpE x) (if (rp.take i).any (fun y => isM x.1 y.1) = true then 12 else 0) = A := ⟨_, rfl⟩
                have hA2 : orI (ownP x) (if (rp.take i).any (sameP x) = true then 12 else 0) = A := by rw [← hA, hoP, hsP]
                rw [hA] at hC
                rw [hA2] at hI
                obtain ⟨⟨x1, x2⟩, x3, x4⟩ := x
                have hxL : LP[i]? = some (.agg [.str x1, .str x2, .str x3, .str x4]) := by rw [← hLP, List.getElem?_map, hx]; rfl
                rw [rpFx] at hC
                have hiL : i ≤ LP.length := by omega
                have hcL : i < LP.length := by omega
                simp only at hC
                by_cases z1 : A = 0
                · subst z1
                  rw [qcv] at hI
                  simp (maxSteps := mS) [-getElem?_pos, -Prod.exists, -Prod.forall, -qb, hc, hmP]
                  refine qg [] _ (k := ?_)
                  repeat (first | refine qd _ (hs := by simp (maxSteps := mS) [-getElem?_pos, hcL, hiL, hallP, hxL, hC]; exact rfl) (k := ?_) | refine qe _ (k := ?_))
                  refine qc ?_
                  simp (maxSteps := mS) [-Prod.exists, -Prod.forall, w1]
                  exact ⟨i + 1, ⟨by omega, hI⟩, by omega, by simp⟩
                · rw [qbh z1] at hI
                  have hEE : E = _ := (hEP (by rw [← hI]; first | exact z1 | decide)).trans hI.symm
                  simp (maxSteps := mS) [-getElem?_pos, -qb, hc, hmP]
                  refine qg [] _ (k := ?_)
                  repeat (first | refine qd _ (hs := by simp (maxSteps := mS) [-getElem?_pos, hcL, hiL, hallP, hxL, hC]; exact rfl) (k := ?_) | refine qe _ (k := ?_))
                  refine qc ?_
                  simp (maxSteps := mS) [z1, hEE, results24]
              · have hz : RP = 0 := by rw [← hI, List.drop_of_length_le (by omega)]; rfl
                have hET : RT ≠ 0 → E = RT := fun _ => hET0 hz
                have hET1 : E = RT := hET0 hz
                simp (maxSteps := mS) [-Prod.forall, hc, hmP]
                refine qf (I := fun i : Nat => ⟨[(1, .lp 1 0), (8, .int .i64 i)], [(1, [.str m, .str g, .sl .sh LQ, .sl .sh LM, .sl .sh LP, .sl .sh LT])], σ⟩) (Pr := fun i => i ≤ rt.length ∧ eachF ownT sameT (rt.take i) (rt.drop i) = RT) (μ := fun i => rt.length - i) (a := 0) (by simp) ⟨by simp, by simpa using hRT⟩ ?_
                rintro i ⟨hi, hI⟩
                have w1 := wr1 i (by omega)
                by_cases hc : i < rt.length
                · obtain ⟨x, hx⟩ := getS hc
                  rw [qdw hx] at hI
                  have hC := qn0 (rt.take i) (by simp; omega) x (hbt x (List.mem_of_getElem? hx))
                  have htk : (rt.take i).map rtF = LT.take i := by rw [← hLT, List.map_take]
                  rw [htk] at hC
                  obtain ⟨A, hA⟩ : ∃ A, orI (rtE x) (if (rt.take i).any (isM x) = true then 12 else 0) = A := ⟨_, rfl⟩
                  have hA2 : orI (ownT x) (if (rt.take i).any (sameT x) = true then 12 else 0) = A := by rw [← hA, hoT, hsT]
                  rw [hA] at hC
                  rw [hA2] at hI
                  obtain ⟨x1, x2⟩ := x
                  have hxL : LT[i]? = some (.agg [.str x1, .str x2]) := by rw [← hLT, List.getElem?_map, hx]; rfl
                  rw [rtFx] at hC
                  have hiL : i ≤ LT.length := by omega
                  have hcL : i < LT.length := by omega
                  simp only at hC
                  by_cases z1 : A = 0
                  · subst z1
                    rw [qcv] at hI
                    simp (maxSteps := mS) [-getElem?_pos, -Prod.exists, -Prod.forall, -qb, hc, hmT]
                    refine qg [] _ (k := ?_)
                    repeat (first | refine qd _ (hs := by simp (maxSteps := mS) [-getElem?_pos, hcL, hiL, hallT, hxL, hC]; exact rfl) (k := ?_) | refine qe _ (k := ?_))
                    refine qc ?_
                    simp (maxSteps := mS) [-Prod.exists, -Prod.forall, w1]
                    exact ⟨i + 1, ⟨by omega, hI⟩, by omega, by simp⟩
                  · rw [qbh z1] at hI
                    have hEE : E = _ := (hET (by rw [← hI]; first | exact z1 | decide)).trans hI.symm
                    simp (maxSteps := mS) [-getElem?_pos, -qb, hc, hmT]
                    refine qg [] _ (k := ?_)
                    repeat (first | refine qd _ (hs := by simp (maxSteps := mS) [-getElem?_pos, hcL, hiL, hallT, hxL, hC]; exact rfl) (k := ?_) | refine qe _ (k := ?_))
                    refine qc ?_
                    simp (maxSteps := mS) [z1, hEE, results24]
                · have hz : RT = 0 := by rw [← hI, List.drop_of_length_le (by omega)]; rfl
                  have hE0 : E = 0 := by rw [hET1, hz]
                  simp (maxSteps := mS) [hc, hmT, hE0, results24]
  · rw [qbh zp] at hA
    have hE : E = p := by rw [hA, qbh zp]
    simp (maxSteps := mS) [-Prod.forall, hP, zp, hE, results24]
theorem qih (f:Mf) (hf:MfB f) (σ:List (List AV)):ev 24 [mfF f] σ=some (.int .i64 (mfE f),σ):=qpb f.m f.g f.rq f.ex f.rp f.rt hf σ
end Go.Proofs.Tryz.Ai
end
