/- Part 34 of a proof: a Go function is evaluated on abstract values (texts D23 .. D30); no conditions beyond those of each theorem. -/
import Derived.Test.YtjkkcelnfokplaaGreatDoorAi4
import Derived.Test.YtjkkcelnfokplaaGreatDoorAi33
set_option linter.all false
set_option linter.unusedVariables false
set_option linter.unusedSimpArgs false
set_option linter.unnecessarySimpa false
section
namespace Go.Proofs.Tryz.Ai
open Go Go.AI Go.Proofs
set_option maxHeartbeats 8000000
set_option maxRecDepth 4000
set_option linter.unusedVariables false
theorem LenB (b:Nat) (σ:List (List AV)) (o:Option (List UInt8)) (hb:σ[b]? = some (bc b o)) :
  ev 51 [.gp b 0 (some (SB,2))] σ=some (.int .i64 (txt o).length,σ):=by
 refine qf rfl Tryz.func51 rfl (by simp[Tryz.ntmps51]) (by kernel_rfl) (by kernel_rfl) ?_
 cases o with
 | none =>
  simp only[bc,txt_none] at hb ⊢
  simp (maxSteps:=4000000) (disch:=omega) [dT,dF,qh,-getElem?_pos,List.getElem?_cons_zero,List.getElem?_cons_succ,hb,Tryz.results51,SB,U8]
 | some l =>
  simp only[bc,txt_some] at hb ⊢
  simp (maxSteps:=4000000) (disch:=omega) [dT,dF,qh,-getElem?_pos,List.getElem?_cons_zero,List.getElem?_cons_succ,hb,Tryz.results51,SB,U8]
def moT:List UInt8:=[109,111,100,117,108,101,32]
def gT:List UInt8:=[10,103,111,32]
def goL (g:List UInt8):List UInt8:=if g=[] then [] else gT++g++[10]
def rqWd:List UInt8:=[114,101,113,117,105,114,101]
def exWd:List UInt8:=[101,120,99,108,117,100,101]
def rpWd:List UInt8:=[114,101,112,108,97,99,101]
def rtWd:List UInt8:=[114,101,116,114,97,99,116]
def fmtM (f:Mf):List UInt8:=moT++f.m++[10]++goL f.g++blkT rqWd (f.rq.map rqT)++blkT exWd (f.ex.map modT)++blkT rpWd (f.rp.map rpT)++blkT rtWd (f.rt.map rtT)
def fmtP (f:Mf):List UInt8×Int:=if mfE f≠0 then ([],mfE f) else if 65536<(fmtM (canonM f)).length then ([],13) else (fmtM (canonM f),0)
structure MfS (f:Mf):Prop where
 m:f.m.length≤2^20
 g:f.g.length≤2^20
 rq:∀x∈f.rq,shT (x.1,x.2.1)
 ex:∀x∈f.ex,shT x
 rp:∀x∈f.rp,shT x.1∧shT x.2
 rt:∀x∈f.rt,shT x
theorem MfS.canon {f:Mf} (h:MfS f):MfS (canonM f):=⟨h.m,h.g,fun x hx=>h.rq x (qag.1 hx),fun x hx=>h.ex x (qag.1 hx),fun x hx=>h.rp x (qag.1 hx),fun x hx=>h.rt x (qag.1 hx)⟩
theorem qbg {a b:Int} (h:orI a b=0):a=0∧b=0:=by
 unfold orI at h
 split at h
 ·exact⟨by assumption,h⟩
 ·exact absurd h (by assumption)
structure MfG (f:Mf):Prop where
 path:pathB f.m=0
 go:f.g=[]∨minorB f.g≠none
 most:f.rq.length≤200∧f.ex.length≤200∧f.rp.length≤200∧f.rt.length≤200
 rq:rqsF f.m [] f.rq=0
 ex:eachE (fun x=>(checkB x.1 x.2:Int)) isM f.ex=0
 rp:eachE rpE (fun x y=>isM x.1 y.1) f.rp=0
 rt:eachE rtE isM f.rt=0
theorem qnu {f:Mf} (h:mfE f=0):MfG f:=by
 obtain⟨h1,h2⟩:=qbg h
 obtain⟨h2,h3⟩:=qbg h2
 obtain⟨a1,a2⟩:=qbg h1
 obtain⟨a2,a3⟩:=qbg a2
 obtain⟨a3,_⟩:=qbg a3
 obtain⟨b1,b2⟩:=qbg h3
 obtain⟨b2,b3⟩:=qbg b2
 obtain⟨b3,_⟩:=qbg b3
 refine⟨by omega,?_,?_,h2,b1,b2,b3⟩
 ·by_cases hg:f.g=[]
  ·exact .inl hg
  ·right;intro hn
   rw[if_pos ⟨hg,hn⟩] at a2;cases a2
 ·have:¬200<mostM f:=fun hq=>by rw[if_pos hq] at a3;cases a3
  unfold mostM mxI at this
  (repeat' split at this)<;>omega
theorem blk_len {w:List UInt8} {ls:List (List UInt8)} (hw:w.length≤100) (hl:ls.length≤200) (h:∀s∈ls,s.length≤2^23):(blkT w ls).length≤2^33:=by
 unfold blkT
 split
 ·simp
 ·have h1:=flat_row h
  have h2:=Nat.le_trans h1 (Nat.mul_le_mul_right _ hl)
  simp only[List.length_append,List.length_cons,List.length_nil]
  omega
theorem blk_step {α:Type} (o:Option (List UInt8)) (w:List UInt8) (L:List α) (line:α→List UInt8):∃o',(if L=[] then o else some (txt o++blkT w (L.map line)))=o'∧txt o'=txt o++blkT w (L.map line):=by
 refine⟨_,rfl,?_⟩
 split
 ·rename_i h;subst h;simp[blkT]
 ·rfl
theorem qdp (σ:List (List AV)) (x y:List AV):(σ++[x]).set σ.length y=σ++[y]:=by simp
theorem qs3 {x:Rq} (h:shT (x.1,x.2.1)):(rqT x).length≤2^23:=by
 have:=qch h
 unfold rqT
 split
 ·simp only[List.length_append,indT,List.length_cons,List.length_nil];omega
 ·omega
theorem qs4 {x:Rp} (h1:shT x.1) (h2:shT x.2):(rpT x).length≤2^23:=by
 have:=qch h1
 have:=qch h2
 unfold rpT
 simp only[List.length_append,arT,List.length_cons,List.length_nil];omega
theorem qz1 {x:Rt} (h:shT x):(rtT x).length≤2^23:=by
 obtain⟨h1,h2⟩:=h
 unfold rtT
 split
 ·omega
 ·simp only[List.length_append,List.length_cons,List.length_nil];omega
theorem qlf (f:Mf) (hf:MfB f) (hs:MfS f) (σ:List (List AV)):ev 14 [mfF f] σ=some (.tup [.str (fmtP f).1,.int .i64 (fmtP f).2],σ):=by
 have hCk:=qlc f hf
 have hCa:=qd5 f hf
 have hcs:=hs.canon
 have hP:fmtP f=if mfE f≠0 then ([],mfE f) else if 65536<(fmtM (canonM f)).length then ([],13) else (fmtM (canonM f),0):=rfl
 have hgd:=fun h:mfE f=0=>(qnu h).most
 have hlq:(canonM f).rq.length=f.rq.length:=qw _
 have hle:(canonM f).ex.length=f.ex.length:=qw _
 have hlp:(canonM f).rp.length=f.rp.length:=qw _
 have hlt:(canonM f).rt.length=f.rt.length:=qw _
 obtain⟨E,hE⟩:∃E,mfE f=E:=⟨_,rfl⟩
 rw[hE] at hCk hP hgd
 generalize fmtP f=R at *
 generalize canonM f=c at *
 obtain⟨m0,g0,rq0,ex0,rp0,rt0⟩:=f
 obtain⟨m,g,rq,ex,rp,rt⟩:=c
 simp only at hlq hle hlp hlt hgd
 rw[mfFx] at hCk hCa ⊢
 rw[mfFx] at hCa
 refine qf rfl Tryz.func14 rfl (by simp[Tryz.ntmps14]) (by kernel_rfl) (by kernel_rfl) ?_
 by_cases hE0:E=0
 ·subst hE0
  obtain⟨n1,n2,n3,n4⟩:=hgd rfl
  rw[if_neg (by simp)] at hP
  have hm:=hcs.m
  have hg:=hcs.g
  have hrq:=hcs.rq
  have hex:=hcs.ex
  have hrp:=hcs.rp
  have hrt:=hcs.rt
  simp only at hm hg hrq hex hrp hrt
  obtain⟨t0,ht0⟩:∃t,moT++m=t:=⟨_,rfl⟩
  obtain⟨t1,ht1⟩:∃t,t0++[10]=t:=⟨_,rfl⟩
  have l0:t0.length=m.length+7:=by rw[← ht0];simp[moT]<;>omega
  have l1:t1.length=m.length+8:=by rw[← ht1];simp[l0]
  have c0:7+m.length≤most:=by unfold most;omega
  have c0':m.length+7≤most:=by unfold most;omega
  have c1:t0.length+1≤most:=by unfold most;omega
  have hW1:=qeb σ [] none t1 (by simp;unfold most;omega)
  simp only[txt_none,List.nil_append] at hW1
  obtain⟨u0,hu0⟩:∃t,gT++g=t:=⟨_,rfl⟩
  obtain⟨u1,hu1⟩:∃t,u0++[10]=t:=⟨_,rfl⟩
  have k0:u0.length=g.length+4:=by rw[← hu0];simp[gT]<;>omega
  have k1:u1.length=g.length+5:=by rw[← hu1];simp[k0]
  have d0:4+g.length≤most:=by unfold most;omega
  have d0':g.length+4≤most:=by unfold most;omega
  have d1:u0.length+1≤most:=by unfold most;omega
  have hW2:=qeb σ [] (some t1) u1 (by simp;unfold most;omega)
  simp only[txt_some] at hW2
  obtain⟨t2,ht2⟩:∃t,t1++goL g=t:=⟨_,rfl⟩
  have l2:t2.length≤2^22:=by
   rw[← ht2,List.length_append]
   unfold goL
   split
   ·simp;omega
   ·simp only[List.length_append,gT,List.length_cons,List.length_nil];omega
  have b1:=blk_len (w:=rqWd) (ls:=rq.map rqT) (by decide) (by simp;omega) fun s hs=>by obtain⟨x,hx,rfl⟩:=List.mem_map.1 hs;exact qs3 (hrq x hx)
  have b2:=blk_len (w:=exWd) (ls:=ex.map modT) (by decide) (by simp;omega) fun s hs=>by obtain⟨x,hx,rfl⟩:=List.mem_map.1 hs;have:=qch (hex x hx);omega
  have b3:=blk_len (w:=rpWd) (ls:=rp.map rpT) (by decide) (by simp;omega) fun s hs=>by obtain⟨x,hx,rfl⟩:=List.mem_map.1 hs;exact qs4 (hrp x hx).1 (hrp x hx).2
  have hB1:=qsz σ.length (some t2) (σ++[bc σ.length (some t2)]) (by simp) rqWd (by decide) rq (by omega) (by simp;omega) 43 (by decide) rqT fun x hx=>⟨qs3 (hrq x hx),fun σ=>fmt1_eq x (hrq x hx) σ⟩
  obtain⟨o3,ho3,q3⟩:=blk_step (some t2) rqWd rq rqT
  rw[ho3,qdp] at hB1
  simp only[txt_some] at q3
  have z3:(txt o3).length≤2^34:=by rw[q3,List.length_append];omega
  have hB2:=qs0 σ.length o3 (σ++[bc σ.length o3]) (by simp) exWd (by decide) ex (by omega) (by omega) 44 (by decide) modT fun x hx=>⟨by have:=qch (hex x hx);omega,fun σ=>text_eq x (hex x hx) σ⟩
  obtain⟨o4,ho4,q4⟩:=blk_step o3 exWd ex modT
  rw[ho4,qdp] at hB2
  have z4:(txt o4).length≤2^35:=by rw[q4,List.length_append];omega
  have hB3:=qs1 σ.length o4 (σ++[bc σ.length o4]) (by simp) rpWd (by decide) rp (by omega) (by omega) 48 (by decide) rpT fun x hx=>⟨qs4 (hrp x hx).1 (hrp x hx).2,fun σ=>fmt2_eq x (hrp x hx).1 (hrp x hx).2 σ⟩
  obtain⟨o5,ho5,q5⟩:=blk_step o4 rpWd rp rpT
  rw[ho5,qdp] at hB3
  have z5:(txt o5).length≤2^36:=by rw[q5,List.length_append];omega
  have hB4:=qs2 σ.length o5 (σ++[bc σ.length o5]) (by simp) rtWd (by decide) rt (by omega) (by omega) 50 (by decide) rtT fun x hx=>⟨qz1 (hrt x hx),fun σ=>fmt3_eq x (hrt x hx) σ⟩
  obtain⟨o6,ho6,q6⟩:=blk_step o5 rtWd rt rtT
  rw[ho6,qdp] at hB4
  have hfin:fmtM ⟨m,g,rq,ex,rp,rt⟩=txt o6:=by rw[q6,q5,q4,q3,← ht2,← ht1,← ht0];rfl
  rw[hfin] at hP
  have hL:=LenB σ.length (σ++[bc σ.length o6]) o6 (by simp)
  have hS:=qvu σ.length (σ++[bc σ.length o6]) o6 (by simp)
  rw[qdp] at hS
  clear ho3 ho4 ho5 ho6
  have hgo:∀r,(r=if g=[] then t1 else t1++u1)→r=t2:=fun r hr=>by
   rw[hr,← ht2];unfold goL
   split
   ·simp
   ·rw[hu0,hu1]
  have hm0:109::111::100::117::108::101::32::m=t0:=ht0
  have hu0':10::103::111::32::g=u0:=hu0
  unfold moT at ht0
  unfold gT at hu0
  unfold rqWd at hB1
  unfold exWd at hB2
  unfold rpWd at hB3
  unfold rtWd at hB4
  have hb0:bc σ.length none=[.nilp,.sl .nil []]:=rfl
  rw[hb0] at hW1
  simp only[SB] at hW1 hW2 hB1 hB2 hB3 hB4 hL hS
  obtain⟨B1,hB1'⟩:∃B,bc σ.length (some t1)=B:=⟨_,rfl⟩
  rw[hB1'] at hW1 hW2
  obtain⟨B2,hB2'⟩:∃B,bc σ.length (some t2)=B:=⟨_,rfl⟩
  rw[hB2'] at hB1
  obtain⟨B3,hB3'⟩:∃B,bc σ.length o3=B:=⟨_,rfl⟩
  rw[hB3'] at hB1 hB2
  obtain⟨B4,hB4'⟩:∃B,bc σ.length o4=B:=⟨_,rfl⟩
  rw[hB4'] at hB2 hB3
  obtain⟨B5,hB5'⟩:∃B,bc σ.length o5=B:=⟨_,rfl⟩
  rw[hB5'] at hB3 hB4
  obtain⟨B6,hB6'⟩:∃B,bc σ.length o6=B:=⟨_,rfl⟩
  rw[hB6'] at hB4 hL hS
  obtain⟨S6,hS6⟩:∃B,bs σ.length o6=B:=⟨_,rfl⟩
  rw[hS6] at hS
  obtain⟨txt6,htx⟩:∃t,txt o6=t:=⟨_,rfl⟩
  rw[htx] at hL hS hP
  by_cases hg0:g=[]
  ·have hg1:(g==[])=true:=by simpa using hg0
   have e2:=hgo t1 (by rw[if_pos hg0])
   subst e2
   rw[hB1'] at hB2'
   subst hB2'
   by_cases hq:65536<txt6.length
   ·rw[if_pos hq] at hP
    simp (maxSteps:=4000000) [-List.append_assoc,hCk,hCa,hg1,c0,c0',c1,ht0,hm0,ht1,hW1,hB1,hB2,hB3,hB4,hL,hq,hP,Tryz.results14]
   ·rw[if_neg hq] at hP
    simp (maxSteps:=4000000) [-List.append_assoc,hCk,hCa,hg1,c0,c0',c1,ht0,hm0,ht1,hW1,hB1,hB2,hB3,hB4,hL,hS,hq,hP,Tryz.results14]
  ·have hg1:(g==[])=false:=by simpa using hg0
   have e2:=hgo (t1++u1) (by rw[if_neg hg0])
   rw[e2,hB2'] at hW2
   by_cases hq:65536<txt6.length
   ·rw[if_pos hq] at hP
    simp (maxSteps:=4000000) [-List.append_assoc,hCk,hCa,hg1,c0,c0',c1,d0,d0',d1,ht0,hm0,ht1,hu0,hu0',hu1,hW1,hW2,hB1,hB2,hB3,hB4,hL,hq,hP,Tryz.results14]
   ·rw[if_neg hq] at hP
    simp (maxSteps:=4000000) [-List.append_assoc,hCk,hCa,hg1,c0,c0',c1,d0,d0',d1,ht0,hm0,ht1,hu0,hu0',hu1,hW1,hW2,hB1,hB2,hB3,hB4,hL,hS,hq,hP,Tryz.results14]
 ·rw[if_pos hE0] at hP
  simp (maxSteps:=4000000) [hCk,hE0,hP,Tryz.results14]
end Go.Proofs.Tryz.Ai
end
section
namespace Go.Proofs.Tryz.Ai
open Go Go.AI Go.RowKit Go.Proofs
set_option maxHeartbeats 8000000
set_option maxRecDepth 4000
set_option linter.unusedVariables false
def parseTb:List AV→List (List AV)→Option (AV×List (List AV))
 | [.str t],s=>some (parseAV t,s)
 | _,_=>none
noncomputable def T1:Table:=fun f=>if f=9 then some parseTb else T f
theorem mixedT:Tryz.prog.follows .mixedOrders=true:=by kernel_rfl
theorem T1_ok {W0:World} (hl:LaidAll W0):TableOk Tryz.prog W0.heap.size W0 T1:=by
 intro f p hf xs s r s' e
 unfold T1 at hf
 split at hf
 ·rename_i h
  subst h
  injection hf with hf
  subst hf
  unfold parseTb at e
  split at e
  ·injection e with e
   injection e with e1 e2
   subst e1 e2
   exact⟨⟨_,Tryz.func9,by kernel_rfl,by kernel_rfl⟩,qmx mixedT (T_ok hl) _ _⟩
  ·cases e
 ·exact T_ok hl f p hf xs s r s' e
noncomputable abbrev ev1:Oracle:=EV Tryz.prog H T1
theorem TParse:T 9=some fun _ _=>none:=rfl
theorem lift {f:FuncId} {xs:List AV} {s:List (List AV)} {r:AV×List (List AV)} (h:ev f xs s=some r):ev1 f xs s=some r:=by
 refine qy2 (fun f h=>?_) (fun f p h=>?_) h
 ·unfold T1
  split
  ·rename_i e;subst e;rw[TParse] at h;cases h
  ·exact h
 ·unfold T1
  split
  ·rename_i e;subst e;rw[TParse] at h;injection h with h;subst h;exact⟨_,rfl,fun _ _ _ e=>by cases e⟩
  ·exact⟨p,h,fun _ _ _ e=>e⟩
theorem qjv (t:List UInt8) (s:List (List AV)):ev1 9 [.str t] s=some (parseAV t,s):=(qas (P:=Tryz.prog) (H:=H) (T:=T1) (f:=9) (p:=parseTb) (by rfl) [.str t] s).trans rfl
def exT:List UInt8:=[109,111,100,117,108,101,32,97,46,98,47,99,32,47,47,32,109,105,110,101,10,114,101,113,117,105,114,101,32,120,46,121,47,122,32,118,49,46,50,46,48,32,47,47,32,105,110,100,105,114,101,99,116,10]
def exM:Mf:=⟨[97,46,98,47,99],[],[([120,46,121,47,122],[118,49,46,50,46,48],true)],[],[],[]⟩
def exO:List UInt8:=[109,111,100,117,108,101,32,97,46,98,47,99,10,10,114,101,113,117,105,114,101,32,40,10,9,120,46,121,47,122,32,118,49,46,50,46,48,32,47,47,32,105,110,100,105,114,101,99,116,10,41,10]
def exU:List UInt8:=[109,111,100,117,108,101,32,97,46,98,47,99,10,109,111,100,117,108,101,32,97,46,98,47,99,10]
theorem qwh:parseP exT=.ok exM:=by kernel_rfl
theorem q2v:fmtP exM=(exO,0):=by kernel_rfl
theorem qwi:parseP exU=.error (2,12):=by kernel_rfl
theorem first_eq (σ:List (List AV)):ev1 8 [] σ=some (.bool true,σ):=by
 have h1:∀σ,ev1 9 [.str exT] σ=some (.tup [mfF exM,.int .i64 0,.int .i64 0],σ):=fun σ=>by rw[qjv];unfold parseAV;rw[qwh]
 have h2:∀σ,ev1 14 [mfF exM] σ=some (.tup [.str exO,.int .i64 0],σ):=fun σ=>by
  have:=lift (qlf exM ⟨by decide,by decide,by decide,by decide,by decide,by decide,by simp[exM],by simp[exM],by simp[exM],by simp[exM]⟩ ⟨by decide,by decide,by simp[exM,shT],by simp[exM],by simp[exM],by simp[exM]⟩ σ)
  rw[q2v] at this
  exact this
 have h3:∀σ,ev1 9 [.str exU] σ=some (.tup [mfF mf0,.int .i64 2,.int .i64 12],σ):=fun σ=>by rw[qjv];unfold parseAV;rw[qwi]
 have hN:=fun e σ=>lift (qr1 e σ)
 rw[mfFx] at h1 h2 h3
 simp only[exM,exT,exO,exU,mf0,List.map_cons,List.map_nil,rqF] at h1 h2 h3
 refine qf rfl Tryz.func8 rfl (by simp[Tryz.ntmps8]) (by kernel_rfl) (by kernel_rfl) ?_
 simp (maxSteps:=4000000) [h1,h2,h3,hN,Tryz.results8]
end Go.Proofs.Tryz.Ai
end
section
namespace Go.Proofs.Tryz.Ai
open Go Go.AI Go.Proofs
set_option maxHeartbeats 8000000
set_option maxRecDepth 4000
set_option linter.unusedVariables false
abbrev Md:=List UInt8×List UInt8
abbrev MfT:=List UInt8×List UInt8×List (List UInt8×List UInt8×Bool)×List (List UInt8×List UInt8)×List ((List UInt8×List UInt8)×List UInt8×List UInt8)×List (List UInt8×List UInt8)
def mfO (x:MfT):Mf:=⟨x.1,x.2.1,x.2.2.1,x.2.2.2.1,x.2.2.2.2.1,x.2.2.2.2.2⟩
structure MfSm (f:Mf):Prop where
 m:f.m.length≤1048576
 g:f.g.length≤1048576
 lq:f.rq.length≤1048576
 le:f.ex.length≤1048576
 lp:f.rp.length≤1048576
 lt:f.rt.length≤1048576
 rq:∀x∈f.rq,x.1.length+x.2.1.length≤1048576
 ex:∀x∈f.ex,x.1.length+x.2.length≤1048576
 rp:∀x∈f.rp,x.1.1.length+x.1.2.length+(x.2.1.length+x.2.2.length)≤1048576
 rt:∀x∈f.rt,x.1.length+x.2.length≤1048576
def replB (rp:List Rp) (m:Md):Md:=match rp.find? (fun x=>isM m x.1) with
 | some x=>x.2
 | none=>match rp.find? (fun x=>isM (m.1,[]) x.1) with
  | some x=>x.2
  | none=>m
def rplI (rp:List Rp) (m:Md) (i:Nat):Prop:=i≤2∧(1≤i→rp.find? (fun x=>isM m x.1)=none)∧(2≤i→rp.find? (fun x=>isM (m.1,[]) x.1)=none)
end Go.Proofs.Tryz.Ai
end
section
namespace Go.Proofs.Tryz.Ai
open Go Go.AI Go.Proofs
set_option maxHeartbeats 4000000
set_option maxRecDepth 4000
set_option linter.unusedVariables false
def noC:List UInt8→Bool
 | []=>true
 | c::r=>!(c==47&&r.head? == some 47)&&noC r
theorem qjw:∀{s:List UInt8},noC s=true↔∀i:Nat,s[i]? = some 47→s[i+1]?≠some 47
 | []=>by simp[noC]
 | c::r=>by
  have ih:=qjw (s:=r)
  constructor
  ·intro h i h1 h2
   simp only[noC,Bool.and_eq_true,Bool.not_eq_true',Bool.and_eq_false_iff] at h
   cases i with
   | zero =>
    simp only[List.getElem?_cons_zero,Option.some.injEq] at h1
    simp only[List.getElem?_cons_succ] at h2
    have h3:r.head? = some 47:=by rw[List.head?_eq_getElem?];exact h2
    rcases h.1 with h4|h4
    ·simp[h1] at h4
    ·simp[h3] at h4
   | succ i=>exact ih.1 h.2 i (by simpa using h1) (by simpa using h2)
  ·intro h
   simp only[noC,Bool.and_eq_true,Bool.not_eq_true',Bool.and_eq_false_iff]
   refine⟨?_,ih.2 fun i h1 h2=>h (i+1) (by simpa using h1) (by simpa using h2)⟩
   by_cases hc:c=47
   ·right
    have:=h 0 (by simp[hc])
    simp only[List.getElem?_cons_succ] at this
    rw[List.head?_eq_getElem?]
    simpa using this
   ·left;simpa using hc
theorem qbj:∀{a b:List UInt8} {c:UInt8},noC a=true→noC b=true→c≠47→noC (a++c::b)=true
 | [],b,c,_,hb,hc=>by simp[noC,hb,hc]
 | [x],b,c,ha,hb,hc=>by simp[noC,hb,hc]
 | x::y::a,b,c,ha,hb,hc=>by
  simp only[noC,Bool.and_eq_true,List.head?_cons] at ha
  have ih:=qbj (a:=y::a) (b:=b) (c:=c) (by simp only[noC,Bool.and_eq_true];exact ha.2) hb hc
  simp only[List.cons_append,noC,Bool.and_eq_true,List.head?_cons] at ih ⊢
  exact⟨ha.1,ih⟩
theorem qs6 {a:List UInt8} (h:(47:UInt8)∉a):noC a=true:=qjw.2 fun i h1 _=>h (List.mem_of_getElem? h1)
theorem qxp:∀{x t:List UInt8},(47:UInt8)∉x→noC t=true→t.head?≠some 47→noC (x++47::t)=true
 | [],t,_,h,h0=>by simp[noC,h,h0]
 | c::x,t,hx,h,h0=>by
  have h1:c≠47:=fun e=>hx (by simp[e])
  have ih:=qxp (x:=x) (fun e=>hx (List.mem_cons_of_mem _ e)) h h0
  simp[noC,h1,ih]
theorem qnv:∀{L:List (List UInt8)},(∀x∈L,x≠[]∧(47:UInt8)∉x)→noC (joinB 47 L)=true
 | [],_=>rfl
 | [x],h=>qs6 (h x (by simp)).2
 | x::y::r,h=>by
  rw[qco 47 x (by simp)]
  refine qxp (h x (by simp)).2 (qnv fun z hz=>h z (List.mem_cons_of_mem _ hz)) ?_
  obtain⟨h1,h2⟩:=h y (by simp)
  intro e
  cases y with
  | nil=>exact h1 rfl
  | cons d y =>
   have:(joinB 47 ((d::y)::r)).head? = some d:=by
    cases r with
    | nil=>rfl
    | cons z r=>rw[qco 47 _ (by simp)];rfl
   rw[this] at e
   injection e with e
   exact h2 (by simp[e])
theorem qjx {c b:UInt8}:∀{L:List (List UInt8)},b∈joinB c L→b=c∨∃x∈L,b∈x
 | [],h=>by simp[joinB] at h
 | [x],h=>.inr ⟨x,by simp,h⟩
 | x::y::r,h=>by
  rw[qco c x (by simp),List.mem_append,List.mem_cons] at h
  rcases h with h|h|h
  ·exact .inr ⟨x,by simp,h⟩
  ·exact .inl h
  ·rcases qjx h with h|⟨z,h1,h2⟩
   ·exact .inl h
   ·exact .inr ⟨z,List.mem_cons_of_mem _ h1,h2⟩
theorem qz4 {s:List UInt8} (h:noC s=true):(Lib.cut s [47,47]).1=s∧(Lib.cut s [47,47]).2.1=[]:=by
 have hc:=qmd s
 obtain⟨P,hP⟩:∃P,(Lib.cut s [47,47]).1=P:=⟨_,rfl⟩
 obtain⟨Q,hQ⟩:∃Q,(Lib.cut s [47,47]).2.1=Q:=⟨_,rfl⟩
 rw[hP,hQ] at hc ⊢
 rcases hc.app with ⟨h1,h2⟩|h1
 ·exact⟨h1.symm,h2⟩
 ·exfalso
  exact qjw.1 h P.length (by rw[h1];simp) (by rw[h1];simp)
theorem qz5 {a b:List UInt8} (h:noC (a++[32])=true):(Lib.cut (a++32::47::47::b) [47,47]).1=a++[32]∧(Lib.cut (a++32::47::47::b) [47,47]).2.1=b:=by
 have hc:=qmd (a++32::47::47::b)
 obtain⟨P,hP⟩:∃P,(Lib.cut (a++32::47::47::b) [47,47]).1=P:=⟨_,rfl⟩
 obtain⟨Q,hQ⟩:∃Q,(Lib.cut (a++32::47::47::b) [47,47]).2.1=Q:=⟨_,rfl⟩
 rw[hP,hQ] at hc ⊢
 have e:a++32::47::47::b=(a++[32])++47::47::b:=by simp
 have hle:=hc.no (a.length+1) (by rw[e,List.getElem?_append_right (by simp)];simp) (by rw[e,List.getElem?_append_right (by simp)];simp)
 rcases hc.app with ⟨h1,_⟩|h1
 ·have:=congrArg List.length h1
  simp at this;omega
 ·have hlen:P.length=(a++[32]).length:=by
   rcases Nat.lt_or_ge P.length (a.length+1) with hlt|hge
   ·exfalso
    have g1:(a++32::47::47::b)[P.length]? = some 47:=by rw[h1];simp
    have g2:(a++32::47::47::b)[P.length+1]? = some 47:=by rw[h1];simp
    rw[e,List.getElem?_append_left (by simp;omega)] at g1
    rcases Nat.lt_or_ge (P.length+1) (a.length+1) with h2|h2
    ·rw[e,List.getElem?_append_left (by simp;omega)] at g2
     exact qjw.1 h _ g1 g2
    ·have:P.length=a.length:=by omega
     rw[this] at g1
     simp at g1
   ·simp;omega
  rw[e] at h1
  obtain⟨h2,h3⟩:=List.append_inj h1 hlen.symm
  injection h3 with _ h3
  injection h3 with _ h3
  exact⟨h2.symm,h3.symm⟩
structure Wrd (s:List UInt8):Prop where
 ne:s≠[]
 wd:∀c∈s,isWd c=true
 sl:noC s=true
 ar:s≠[61,62]
theorem qz6 {c:UInt8} (h:isWd c=true):isBl c=false∧isMk c=false:=by
 simp only[isWd,Bool.and_eq_true,decide_eq_true_eq] at h
 obtain⟨⟨h1,h2⟩,h3⟩:=h
 simp only[List.mem_cons,not_or] at h3
 constructor
 ·simp only[isBl,Bool.or_eq_false_iff,beq_eq_false_iff_ne]
  exact⟨fun e=>by subst e;revert h1;decide,fun e=>by subst e;revert h1;decide⟩
 ·simp only[isMk,mkL,decide_eq_false_iff_not,List.mem_cons,not_or]
  exact⟨h3.1,h3.2.1,h3.2.2.1,h3.2.2.2.1,h3.2.2.2.2.1,by simp⟩
theorem tok_word {w r:List UInt8} (h:Wrd w) (hr:∀c,r.head? = some c→isWd c=false):tokB (w++r)=(tokB r).map ((119,w)::·):=by
 obtain⟨h0,h1,_,h3⟩:=h
 have ht:(w++r).takeWhile isWd=w:=by
  rw[List.takeWhile_append_of_pos h1]
  cases r with
  | nil=>simp
  | cons c r=>rw[List.takeWhile_cons,if_neg (by rw[hr c rfl];simp)];simp
 have hd:(w++r).dropWhile isWd=r:=by
  rw[List.dropWhile_append_of_pos h1]
  cases r with
  | nil=>rfl
  | cons c r=>rw[List.dropWhile_cons,if_neg (by rw[hr c rfl];simp)]
 cases w with
 | nil=>exact absurd rfl h0
 | cons c w =>
  obtain⟨k1,k2⟩:=qz6 (h1 c (by simp))
  rw[List.cons_append] at ht hd ⊢
  rw[tokB_wd k1 k2 (h1 c (by simp)),ht,hd]
  unfold tkW
  rw[if_neg h3]
theorem tok_end {w:List UInt8} (h:Wrd w):tokB w=some [(119,w)]:=by
 have:=tok_word (r:=[]) h (by simp)
 rw[List.append_nil,tokB_nil] at this
 exact this
theorem tok_bl (r:List UInt8):tokB (32::r)=tokB r:=tokB_bl (by decide)
theorem tok_tab (r:List UInt8):tokB (9::r)=tokB r:=tokB_bl (by decide)
theorem tok_mk {c:UInt8} (h:c∈mkL) (r:List UInt8):tokB (c::r)=(tokB r).map ((c,[])::·):=by
 have h2:isMk c=true:=by unfold isMk;simpa using h
 have h1:isBl c=false:=by
  cases hb:isBl c with
  | false=>rfl
  | true =>
   simp only[isBl,Bool.or_eq_true,beq_iff_eq] at hb
   rcases hb with rfl|rfl<;>revert h<;>decide
 exact tokB_mk h1 h2
theorem tok_ar (r:List UInt8):tokB (61::62::32::r)=(tokB r).map ((62,[])::·):=by
 rw[tokB_wd (by decide) (by decide) (by decide)]
 have h1:(61::62::32::r).takeWhile isWd=[61,62]:=by
  rw[List.takeWhile_cons,if_pos (by decide),List.takeWhile_cons,if_pos (by decide),List.takeWhile_cons,if_neg (by decide)]
 have h2:(61::62::32::r).dropWhile isWd=32::r:=by
  rw[List.dropWhile_cons,if_pos (by decide),List.dropWhile_cons,if_pos (by decide),List.dropWhile_cons,if_neg (by decide)]
 rw[h1,h2,tok_bl];rfl
theorem qnw {o:List UInt8} (ho:∀c∈o,isWd c=true) {c:UInt8} (h:wordB o c=true):isWd c=true:=by
 unfold wordB at h
 simp only[Bool.or_eq_true] at h
 rcases h with ((h|h)|h)|h
 ·simp only[isD,decide_eq_true_eq] at h
  simp only[isWd,Bool.and_eq_true,decide_eq_true_eq]
  refine⟨⟨by omega,by omega⟩,fun hm=>?_⟩
  simp only[List.mem_cons,List.not_mem_nil,or_false] at hm
  rcases hm with rfl|rfl|rfl|rfl|rfl|rfl<;>revert h<;>decide
 ·simp only[isU,decide_eq_true_eq] at h
  simp only[isWd,Bool.and_eq_true,decide_eq_true_eq]
  refine⟨⟨by omega,by omega⟩,fun hm=>?_⟩
  simp only[List.mem_cons,List.not_mem_nil,or_false] at hm
  rcases hm with rfl|rfl|rfl|rfl|rfl|rfl<;>revert h<;>decide
 ·simp only[isL,decide_eq_true_eq] at h
  simp only[isWd,Bool.and_eq_true,decide_eq_true_eq]
  refine⟨⟨by omega,by omega⟩,fun hm=>?_⟩
  simp only[List.mem_cons,List.not_mem_nil,or_false] at hm
  rcases hm with rfl|rfl|rfl|rfl|rfl|rfl<;>revert h<;>decide
 ·exact ho c (by simpa using h)
theorem qbh {p:List UInt8} (h:pathB p=0):Wrd p∧p.length≤100:=by
 unfold pathB at h
 split at h
 ·cases h
 ·rename_i hl
  split at h
  ·cases h
  ·rename_i he
   simp only[not_or] at he
   have he:elemsB [45,46,95,126] p=true:=by simpa using he.1
   unfold elemsB at he
   rw[List.all_eq_true] at he
   have hel:∀x∈splitB 47 p,x≠[]∧∀c∈x,wordB [45,46,95,126] c=true:=by
    intro x hx
    have:=he x hx
    unfold elemB allB at this
    simp only[Bool.and_eq_true,Bool.not_eq_true',List.all_eq_true] at this
    exact⟨fun e=>by rw[e] at this;simp at this,this.1.1⟩
   have hj:=qcp 47 p
   have hmem:∀c∈p,c=47∨wordB [45,46,95,126] c=true:=by
    intro c hc
    rw[← hj] at hc
    rcases qjx hc with h|⟨x,h1,h2⟩
    ·exact .inl h
    ·exact .inr ((hel x h1).2 c h2)
   refine⟨⟨?_,?_,?_,?_⟩,by omega⟩
   ·intro e;subst e
    exact (hel [] (by simp[splitB])).1 rfl
   ·intro c hc
    rcases hmem c hc with rfl|h
    ·decide
    ·exact qnw (by decide) h
   ·rw[← hj]
    exact qnv fun x hx=>⟨(hel x hx).1,qow hx⟩
   ·intro e
    rcases hmem 61 (by rw[e];simp) with h|h
    ·revert h;decide
    ·revert h;decide
theorem qnx {c:UInt8} {s:List UInt8} {q:UInt8→Bool} (h:∀x∈splitB c s,∀b∈x,q b=true):∀b∈s,b=c∨q b=true:=by
 intro b hb
 rw[← qcp c s] at hb
 rcases qjx hb with h1|⟨x,h1,h2⟩
 ·exact .inl h1
 ·exact .inr (h x h1 b h2)
theorem qny {o:List UInt8} {c:UInt8} (h:isD c=true):wordB o c=true:=by unfold wordB;rw[h];simp
theorem qnz {s:List UInt8} {n:Nat} (h:numB s=some n):(∀c∈s,isD c=true)∧s.length≤9∧s≠[]:=by
 unfold numB at h
 split at h
 ·rename_i hk
  unfold numOk allB at hk
  simp only[Bool.and_eq_true,List.all_eq_true,decide_eq_true_eq,Bool.not_eq_true'] at hk
  exact⟨hk.1.1.1,hk.2,fun e=>by rw[e] at hk;simp at hk⟩
 ·cases h
theorem qlg {s:List UInt8} (h0:s≠[]) (h:∀c∈s,wordB [45,46] c=true):Wrd s:=by
 refine⟨h0,fun c hc=>qnw (by decide) (h c hc),qs6 fun hm=>?_,fun e=>?_⟩
 ·have:=h 47 hm;revert this;decide
 ·have:=h 61 (by rw[e];simp);revert this;decide
theorem qca {v:List UInt8} (h:readB v≠none):Wrd v∧v.length≤60:=by
 unfold readB at h
 split at h
 ·exact absurd rfl h
 ·rename_i hl
  split at h
  ·exact absurd rfl h
  ·rename_i c r
   split at h
   ·exact absurd rfl h
   ·rename_i hc
    refine⟨qlg (by simp) ?_,by omega⟩
    cases hk:coreOf (cutB 45 r).1 with
    | none=>rw[hk] at h;exact absurd rfl h
    | some t =>
     obtain⟨x,y,z⟩:=t
     rw[hk] at h
     simp only at h
     have h1:∀b∈(cutB 45 r).1,wordB [45,46] b=true:=by
      intro b hb
      have hq:∀x∈splitB 46 (cutB 45 r).1,∀b∈x,isD b=true:=by
       intro x hx
       unfold coreOf at hk
       split at hk
       ·rename_i a1 a2 a3 hs
        split at hk
        ·rename_i n1 n2 n3
         rw[hs] at hx
         simp only[List.mem_cons,List.not_mem_nil,or_false] at hx
         rcases hx with rfl|rfl|rfl
         ·exact (qnz n1).1
         ·exact (qnz n2).1
         ·exact (qnz n3).1
        ·cases hk
       ·cases hk
      rcases qnx hq b hb with rfl|h2
      ·decide
      ·exact qny h2
     have h2:(cutB 45 r).2.2=true→∀b∈(cutB 45 r).2.1,wordB [45,46] b=true:=by
      intro hi b hb
      split at h
      ·exact absurd rfl h
      ·rename_i hq
       have hid:idsB (cutB 45 r).2.1=true:=by simpa[hi] using hq
       unfold idsB at hid
       rw[List.all_eq_true] at hid
       have hq:∀x∈splitB 46 (cutB 45 r).2.1,∀b∈x,wordB [45] b=true:=by
        intro x hx
        have:=hid x hx
        unfold idB allB at this
        simp only[Bool.and_eq_true,List.all_eq_true] at this
        exact this.1.1
       rcases qnx hq b hb with rfl|h2
       ·decide
       ·unfold wordB at h2 ⊢
        simp only[Bool.or_eq_true,decide_eq_true_eq,List.mem_cons,List.not_mem_nil,or_false] at h2 ⊢
        rcases h2 with h2|h2
        ·exact .inl h2
        ·exact .inr (.inl h2)
     intro b hb
     rcases List.mem_cons.1 hb with rfl|hb
     ·have:b=118:=by simpa using hc
      subst this;decide
     ·rcases qgt 45 r with ⟨k1,k2⟩|⟨k1,k2,k3⟩
      ·rw[k2] at hb
       rcases List.mem_append.1 hb with hb|hb
       ·exact h1 b hb
       ·rcases List.mem_cons.1 hb with rfl|hb
        ·decide
        ·exact h2 k1 b hb
      ·rw[k2] at h1;exact h1 b hb
theorem qg7 {g:List UInt8} (h:minorB g≠none):Wrd g∧g.length≤11:=by
 unfold minorB at h
 split at h
 ·rename_i hp
  cases hn:numB (g.drop 2) with
  | none=>rw[hn] at h;exact absurd rfl h
  | some k =>
   obtain⟨h1,h2,h3⟩:=qnz hn
   match g,hp,h1,h2 with
   | a::b::r,hp,h1,h2 =>
    simp only[List.isPrefixOf,Bool.and_eq_true,beq_iff_eq,List.isPrefixOf_nil_left,and_true] at hp
    simp only[List.drop_succ_cons,List.drop_zero] at h1 h2
    refine⟨qlg (by simp) fun c hc=>?_,by simp;omega⟩
    rcases List.mem_cons.1 hc with rfl|hc
    ·rw[← hp.1];decide
    ·rcases List.mem_cons.1 hc with rfl|hc
     ·rw[← hp.2];decide
     ·exact qny (h1 c hc)
   | [a],hp,_,_=>simp[List.isPrefixOf] at hp
   | [],hp,_,_=>simp[List.isPrefixOf] at hp
 ·exact absurd rfl h
theorem qad {p v:List UInt8} (h:checkB p v=0):Wrd p∧p.length≤100∧Wrd v∧v.length≤60:=by
 unfold checkB at h
 split at h
 ·rename_i h1;exact absurd h h1
 ·rename_i h1
  split at h
  ·cases h
  ·rename_i h2
   obtain⟨a,b⟩:=qbh (p:=p) (by simpa using h1)
   obtain⟨c,d⟩:=qca h2
   exact⟨a,b,c,d⟩
theorem qbl {p:Ps} {s:List UInt8} {l:List Tok} (h1:s.length≤1000) (h2:noC s=true) (h3:tokB s=some l):readP p s=lineP {p with line:=p.line+1,ind:=false} l:=by
 obtain⟨k1,k2⟩:=qz4 h2
 unfold readP
 rw[if_neg (by omega),k1,h3,k2]
 rfl
end Go.Proofs.Tryz.Ai
end
section
namespace Go.Proofs.Tryz.Ai
open Go Go.AI Go.Proofs
set_option maxHeartbeats 4000000
set_option maxRecDepth 4000
set_option linter.unusedVariables false
theorem qfe {a b:Int}:orI a b=0↔a=0∧b=0:=⟨qbg,fun ⟨h1,h2⟩=>by unfold orI;rw[if_pos h1];exact h2⟩
theorem fst2 {u:Int} {c:Prop} [Decidable c]:fstE [u,if c then 12 else 0]=0↔u=0∧¬c:=by
 show orI u (orI (if c then 12 else 0) 0)=0↔_
 rw[qfe,qfe]
 by_cases hc:c<;>simp[hc]
theorem qex {α:Type} {own:α→Int} {same:α→α→Bool}:∀(l a:List α),eachF own same a l=0↔(∀x∈l,own x=0)∧(∀x∈l,∀y∈a,same x y=false)∧l.Pairwise fun y x=>same x y=false
 | [],a=>by simp[eachF]
 | x::r,a=>by
  rw[eachF,qfe,fst2,qex r (a++[x]),List.pairwise_cons]
  constructor
  ·rintro⟨⟨h1,h2⟩,h3,h4,h5⟩
   have h2':∀y∈a,same x y=false:=by simpa using h2
   refine⟨fun y hy=>?_,fun y hy z hz=>?_,fun y hy=>h4 y hy x (by simp),h5⟩
   ·rcases List.mem_cons.1 hy with rfl|hy
    ·exact h1
    ·exact h3 y hy
   ·rcases List.mem_cons.1 hy with rfl|hy
    ·exact h2' z hz
    ·exact h4 y hy z (by simp[hz])
  ·rintro⟨h1,h2,h3,h4⟩
   refine⟨⟨h1 x (by simp),?_⟩,fun y hy=>h1 y (by simp[hy]),fun y hy z hz=>?_,h4⟩
   ·simpa using h2 x (by simp)
   ·rcases List.mem_append.1 hz with hz|hz
    ·exact h2 y (by simp[hy]) z hz
    ·rw[List.mem_singleton.1 hz];exact h3 y hy
theorem qmy {m:List UInt8}:∀(l a:List Rq),rqsF m a l=0↔(∀x∈l,checkB x.1 x.2.1=0∧x.1≠m)∧(∀x∈l,∀y∈a,y.1≠x.1)∧l.Pairwise fun y x=>y.1≠x.1
 | [],a=>by simp[rqsF]
 | x::r,a=>by
  rw[rqsF,qfe,fst2,qmy r (a++[x]),List.pairwise_cons]
  constructor
  ·rintro⟨⟨h1,h2⟩,h3,h4,h5⟩
   simp only[Bool.or_eq_true,List.any_eq_true,not_or,not_exists,not_and,isQ,beq_iff_eq] at h2
   refine⟨fun y hy=>?_,fun y hy z hz=>?_,fun y hy=>h4 y hy x (by simp),h5⟩
   ·rcases List.mem_cons.1 hy with rfl|hy
    ·exact⟨by omega,h2.2⟩
    ·exact h3 y hy
   ·rcases List.mem_cons.1 hy with rfl|hy
    ·exact h2.1 z hz
    ·exact h4 y hy z (by simp[hz])
  ·rintro⟨h1,h2,h3,h4⟩
   refine⟨⟨by have:=(h1 x (by simp)).1;omega,?_⟩,fun y hy=>h1 y (by simp[hy]),fun y hy z hz=>?_,h4⟩
   ·simp only[Bool.or_eq_true,List.any_eq_true,not_or,not_exists,not_and,isQ,beq_iff_eq]
    exact⟨fun y hy=>h2 x (by simp) y hy,(h1 x (by simp)).2⟩
   ·rcases List.mem_append.1 hz with hz|hz
    ·exact h2 y (by simp[hy]) z hz
    ·rw[List.mem_singleton.1 hz];exact h3 y hy
theorem qmz {m x:List UInt8×List UInt8}:isM m x=true↔x=m:=by
 unfold isM
 simp only[Bool.and_eq_true,beq_iff_eq]
 exact⟨fun h=>Prod.ext h.1 h.2,fun h=>by rw[h];exact⟨rfl,rfl⟩⟩
theorem qff {m x:List UInt8×List UInt8}:isM m x=false↔x≠m:=by
 constructor
 ·intro h e
  rw[qmz.2 e] at h
  cases h
 ·intro h
  cases e:isM m x with
  | false=>rfl
  | true=>exact absurd (qmz.1 e) h
structure LsOk (f:Mf):Prop where
 go:f.g=[]∨minorB f.g≠none
 most:f.rq.length≤200∧f.ex.length≤200∧f.rp.length≤200∧f.rt.length≤200
 rq:∀x∈f.rq,checkB x.1 x.2.1=0
 rqd:f.rq.Pairwise fun y x=>y.1≠x.1
 ex:∀x∈f.ex,checkB x.1 x.2=0
 exd:f.ex.Pairwise fun y x=>y≠x
 rp:∀x∈f.rp,rpE x=0
 rpd:f.rp.Pairwise fun y x=>y.1≠x.1
 rt:∀x∈f.rt,rtE x=0
 rtd:f.rt.Pairwise fun y x=>y≠x
theorem qc8 {f:Mf}:mfE f=0↔pathB f.m=0∧LsOk f∧∀x∈f.rq,x.1≠f.m:=by
 constructor
 ·intro h
  obtain⟨h1,h2,h3,h4,h5,h6,h7⟩:=qnu h
  rw[qmy] at h4
  rw[eachE,qex] at h5 h6 h7
  refine⟨h1,⟨h2,h3,fun x hx=>(h4.1 x hx).1,h4.2.2,fun x hx=>by have:=h5.1 x hx;omega,h5.2.2.imp fun h=>qff.1 h,h6.1,h6.2.2.imp fun h=>qff.1 h,h7.1,h7.2.2.imp fun h=>qff.1 h⟩,fun x hx=>(h4.1 x hx).2⟩
 ·rintro⟨h1,⟨h2,h3,h4,h5,h6,h7,h8,h9,h10,h11⟩,h12⟩
  have a1:rqsF f.m [] f.rq=0:=(qmy _ _).2 ⟨fun x hx=>⟨h4 x hx,h12 x hx⟩,by simp,h5⟩
  have a2:eachE (fun x=>(checkB x.1 x.2:Int)) isM f.ex=0:=(qex _ _).2 ⟨fun x hx=>by have:=h6 x hx;omega,by simp,h7.imp fun h=>qff.2 h⟩
  have a3:eachE rpE (fun x y=>isM x.1 y.1) f.rp=0:=(qex _ _).2 ⟨h8,by simp,h9.imp fun h=>qff.2 h⟩
  have a4:eachE rtE isM f.rt=0:=(qex _ _).2 ⟨h10,by simp,h11.imp fun h=>qff.2 h⟩
  have a5:headE f=0:=by
   have b1:¬(f.g≠[]∧minorB f.g=none):=fun ⟨k1,k2⟩=>by
    rcases h2 with h|h
    ·exact k1 h
    ·exact h k2
   have b2:¬200<mostM f:=by
    unfold mostM mxI
    obtain⟨c1,c2,c3,c4⟩:=h3
    (repeat' split)<;>omega
   unfold headE
   rw[if_neg b1,if_neg b2,h1]
   rfl
  unfold mfE tailE
  rw[a5,a1,a2,a3,a4];rfl
theorem LsOk.canon {f:Mf} (h:LsOk f):LsOk (canonM f):=by
 obtain⟨h2,h3,h4,h5,h6,h7,h8,h9,h10,h11⟩:=h
 refine⟨h2,?_,fun x hx=>h4 x (qag.1 hx),?_,fun x hx=>h6 x (qag.1 hx),?_,fun x hx=>h8 x (qag.1 hx),?_,fun x hx=>h10 x (qag.1 hx),?_⟩
 ·simp only[canonM,qw];exact h3
 ·exact ((qaj _).pairwise_iff fun h=>Ne.symm h).2 h5
 ·exact ((qaj _).pairwise_iff fun h=>Ne.symm h).2 h7
 ·exact ((qaj _).pairwise_iff fun h=>Ne.symm h).2 h9
 ·exact ((qaj _).pairwise_iff fun h=>Ne.symm h).2 h11
theorem qlh {f:Mf} (h:mfE f=0):mfE (canonM f)=0:=by
 obtain⟨h1,h2,h3⟩:=qc8.1 h
 exact qc8.2 ⟨h1,h2.canon,fun x hx=>h3 x (qag.1 hx)⟩
theorem qim (f:Mf):canonM (canonM f)=canonM f:=by
 simp only[canonM]
 rw[qa8 TP.rqC,qa8 TO.modC.tp,qa8 TP.rpC,qa8 TO.rtC.tp]
structure PInv (p:Ps):Prop where
 md:p.md=true→pathB p.f.m=0
 ls:LsOk p.f
def KpI (R:Ps→List Tok→Except Int Ps):Prop:=∀p l q,R p l=.ok q→PInv p→PInv q
theorem fst2' {u v:Int}:fstE [u,v]=0↔u=0∧v=0:=by
 show orI u (orI v 0)=0↔_
 rw[qfe,qfe];simp
theorem qz7 {α:Type} {R:α→α→Prop} {l:List α} {x:α} (h:l.Pairwise R) (hx:∀y∈l,R y x):(l++[x]).Pairwise R:=by
 rw[List.pairwise_append]
 exact⟨h,by simp,fun y hy z hz=>by rw[List.mem_singleton.1 hz];exact hx y hy⟩
theorem PInv.same {p q:Ps} (h:PInv p) (h1:q.f=p.f) (h2:q.md=p.md):PInv q:=⟨by rw[h1,h2];exact h.md,by rw[h1];exact h.ls⟩
end Go.Proofs.Tryz.Ai
end
section
namespace Go.Proofs.Tryz.Ai
open Go Go.AI Go.Proofs
set_option maxHeartbeats 4000000
set_option maxRecDepth 4000
set_option linter.unusedVariables false
theorem Wrd.nl {s:List UInt8} (h:Wrd s):(10:UInt8)∉s:=fun hm=>by have:=h.wd 10 hm;revert this;decide
theorem hd_no {c:UInt8} {r:List UInt8} (h:isWd c=false):∀d,(c::r).head? = some d→isWd d=false:=fun d e=>by injection e with e;rw[← e];exact h
theorem qz8:∃g,stmG mdW=some (g,mdP):=⟨_,by unfold stmG;rw[if_pos (by decide)]⟩
theorem qz9:∃g,stmG goW=some (g,goP):=⟨_,by unfold stmG;rw[if_neg (by decide),if_pos (by decide)]⟩
theorem q0a:∃g,stmG rqWd=some (g,rqP):=⟨_,by unfold stmG;rw[if_neg (by decide),if_neg (by decide),if_pos (by decide)]⟩
theorem q0b:∃g,stmG exWd=some (g,exP):=⟨_,by unfold stmG;rw[if_neg (by decide),if_neg (by decide),if_neg (by decide),if_pos (by decide)]⟩
theorem q0c:∃g,stmG rpWd=some (g,rpP):=⟨_,by unfold stmG;rw[if_neg (by decide),if_neg (by decide),if_neg (by decide),if_neg (by decide),if_pos (by decide)]⟩
theorem q0d:∃g,stmG rtWd=some (g,rtP):=⟨_,by unfold stmG;rw[if_neg (by decide),if_neg (by decide),if_neg (by decide),if_neg (by decide),if_neg (by decide),if_pos (by decide)]⟩
theorem qs7 {p:Ps} {w:List UInt8} {t:Tok} {r:List Tok} {g:FuncId} {R:Ps→List Tok→Except Int Ps} (hb:p.blk=w) (hw:w≠[]) (hs:stmG w=some (g,R)) (hk:kindsB (t::r) [41]=false):lineP p (t::r)=R p (t::r):=by
 simp only[lineP]
 rw[if_pos (by rw[hb];exact hw),if_neg (by rw[hk];simp),hb,hs]
theorem qcu {p:Ps} {w:List UInt8} {r:List Tok} {g:FuncId} {R:Ps→List Tok→Except Int Ps} (hb:p.blk=[]) (hs:stmG w=some (g,R)) (hk:kindsB r [40]=false):lineP p ((119,w)::r)=R p r:=by
 simp only[lineP]
 rw[if_neg (by rw[hb];simp),hs]
 simp only
 rw[if_neg (by rw[hk];simp)]
def Nxt (p:Ps) (s:List UInt8) (f:Mf):Prop:=∃q,readP p s=.ok q∧q.f=f∧q.blk=p.blk∧q.md=p.md
theorem qd6 {e:Int} {q:Ps} (h:e=0):stE e q=.ok q:=by unfold stE;rw[if_pos h]
theorem fst_ok {u:Int} {c:Prop} [Decidable c] (h1:u=0) (h2:¬c):fstE [u,if c then 12 else 0]=0:=fst2.2 ⟨h1,h2⟩
theorem qey {x:Rp}:rpE x=0↔pathB x.1.1=0∧(x.1.2=[]∨checkB x.1.1 x.1.2=0)∧checkB x.2.1 x.2.2=0:=by
 unfold rpE
 rw[fst2',fst2']
 by_cases h:x.1.2=[]
 ·simp[h]<;>omega
 ·simp[h]<;>omega
theorem qez {x:Rt} (h:rtE x=0):readB x.1≠none∧readB x.2≠none:=by
 unfold rtE at h
 rw[fst2'] at h
 have h1:=h.1
 cases ha:readB x.1 with
 | none=>rw[ha] at h1;simp at h1
 | some a=>cases hb:readB x.2 with
  | none=>rw[ha,hb] at h1;simp at h1
  | some b=>simp
theorem qba:∀{a b:List (List UInt8)} {p q:Ps},readLs p a=.ok q→readLs p (a++b)=readLs q b
 | [],b,p,q,h=>by simp only[readLs] at h;injection h with h;rw[h];rfl
 | s::a,b,p,q,h=>by
  simp only[readLs,List.cons_append] at h ⊢
  split at h
  ·exact qba h
  ·cases h
def blkL {α:Type} (w:List UInt8) (L:List α) (line:α→List UInt8):List (List UInt8):=if L=[] then [] else []::(w++[32,40])::((L.map fun x=>9::line x)++[[41]])
theorem qs8 {p:Ps} (h:p.blk≠[]):readP p [41]=.ok {p with line:=p.line+1,ind:=false,blk:=[]}:=by
 rw[qbl (l:=[(41,[])]) (by simp) rfl (by rw[tok_mk (by decide),tokB_nil];rfl)]
 simp only[lineP]
 rw[if_pos h];rfl
theorem q2w {m:List UInt8×List UInt8} (h1:(10:UInt8)∉m.1) (h2:(10:UInt8)∉m.2):(10:UInt8)∉modT m:=by
 unfold modT;split
 ·exact h1
 ·simp[h1,h2]
theorem qf3 {p v:List UInt8} (h:checkB p v=0):(10:UInt8)∉p∧(10:UInt8)∉v:=by
 obtain⟨h1,_,h3,_⟩:=qad h
 exact⟨h1.nl,h3.nl⟩
def fmtL (f:Mf):List (List UInt8):=(moT++f.m)::((if f.g=[] then [] else [[],[103,111,32]++f.g])++(blkL rqWd f.rq rqT++(blkL exWd f.ex modT++(blkL rpWd f.rp rpT++blkL rtWd f.rt rtT))))
theorem qpk {s:List UInt8} (h:(s≠[]&&s.all isWd&&noC s&&!(s==[61,62]))=true):Wrd s:=by
 simp only[Bool.and_eq_true,decide_eq_true_eq,List.all_eq_true,Bool.not_eq_true',beq_eq_false_iff_ne] at h
 exact⟨h.1.1.1,h.1.1.2,h.1.2,h.2⟩
theorem bef {α:Type} {R:α→α→Prop} {a b:List α} {x:α} (h:(a++x::b).Pairwise R):∀y∈a,R y x:=fun y hy=>(List.pairwise_append.1 h).2.2 y hy x (by simp)
end Go.Proofs.Tryz.Ai
end
