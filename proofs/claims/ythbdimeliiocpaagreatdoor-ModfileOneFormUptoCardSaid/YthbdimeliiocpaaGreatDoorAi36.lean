/- Part 36 of a proof: a Go function is evaluated on abstract values (texts D29 .. D36); no conditions beyond those of each theorem. -/
import Derived.Test.YthbdimeliiocpaaGreatDoorAi34
set_option linter.all false
set_option linter.unusedVariables false
set_option linter.unusedSimpArgs false
set_option linter.unnecessarySimpa false
section
namespace Go.Proofs.Tryz.Ai
open Go Go.AI Go.Proofs
set_option maxHeartbeats 4000000
set_option maxRecDepth 4000
set_option linter.unusedVariables false
theorem qe8 {a b:Int}:orI a b=0↔a=0∧b=0:=⟨qbe,fun ⟨h1,h2⟩=>by unfold orI;rw[if_pos h1];exact h2⟩
theorem fst2 {u:Int} {c:Prop} [Decidable c]:fstE [u,if c then 12 else 0]=0↔u=0∧¬c:=by
 show orI u (orI (if c then 12 else 0) 0)=0↔_
 rw[qe8,qe8]
 by_cases hc:c<;>simp[hc]
theorem qet {α:Type} {own:α→Int} {same:α→α→Bool}:∀(l a:List α),eachF own same a l=0↔(∀x∈l,own x=0)∧(∀x∈l,∀y∈a,same x y=false)∧l.Pairwise fun y x=>same x y=false
 | [],a=>by simp[eachF]
 | x::r,a=>by
  rw[eachF,qe8,fst2,qet r (a++[x]),List.pairwise_cons]
  constructor
  ·rintro⟨⟨h1,h2⟩,h3,h4,h5⟩
   have h2':∀y∈a,same x y=false:=by simpa using h2
   refine⟨fun y hy=>?_,fun y hy z hz=>?_,fun y hy=>h4 y hy x (by simp),h5⟩
   ·rcases List.mem_cons.1 hy with rfl|hy
    ·exact h1
    ·exact h3 y hy
   ·rcases List.mem_cons.1 hy with rfl|hy
    ·exact h2' z hz
    ·exact h4 y hy z (by simp[hz])
  ·rintro⟨h1,h2,h3,h4⟩
   refine⟨⟨h1 x (by simp),?_⟩,fun y hy=>h1 y (by simp[hy]),fun y hy z hz=>?_,h4⟩
   ·simpa using h2 x (by simp)
   ·rcases List.mem_append.1 hz with hz|hz
    ·exact h2 y (by simp[hy]) z hz
    ·rw[List.mem_singleton.1 hz];exact h3 y hy
theorem qmh {m:List UInt8}:∀(l a:List Rq),rqsF m a l=0↔(∀x∈l,checkB x.1 x.2.1=0∧x.1≠m)∧(∀x∈l,∀y∈a,y.1≠x.1)∧l.Pairwise fun y x=>y.1≠x.1
 | [],a=>by simp[rqsF]
 | x::r,a=>by
  rw[rqsF,qe8,fst2,qmh r (a++[x]),List.pairwise_cons]
  constructor
  ·rintro⟨⟨h1,h2⟩,h3,h4,h5⟩
   simp only[Bool.or_eq_true,List.any_eq_true,not_or,not_exists,not_and,isQ,beq_iff_eq] at h2
   refine⟨fun y hy=>?_,fun y hy z hz=>?_,fun y hy=>h4 y hy x (by simp),h5⟩
   ·rcases List.mem_cons.1 hy with rfl|hy
    ·exact⟨by omega,h2.2⟩
    ·exact h3 y hy
   ·rcases List.mem_cons.1 hy with rfl|hy
    ·exact h2.1 z hz
    ·exact h4 y hy z (by simp[hz])
  ·rintro⟨h1,h2,h3,h4⟩
   refine⟨⟨by have:=(h1 x (by simp)).1;omega,?_⟩,fun y hy=>h1 y (by simp[hy]),fun y hy z hz=>?_,h4⟩
   ·simp only[Bool.or_eq_true,List.any_eq_true,not_or,not_exists,not_and,isQ,beq_iff_eq]
    exact⟨fun y hy=>h2 x (by simp) y hy,(h1 x (by simp)).2⟩
   ·rcases List.mem_append.1 hz with hz|hz
    ·exact h2 y (by simp[hy]) z hz
    ·rw[List.mem_singleton.1 hz];exact h3 y hy
theorem qjj {m x:List UInt8×List UInt8}:isM m x=true↔x=m:=by
 unfold isM
 simp only[Bool.and_eq_true,beq_iff_eq]
 exact⟨fun h=>Prod.ext h.1 h.2,fun h=>by rw[h];exact⟨rfl,rfl⟩⟩
theorem qe9 {m x:List UInt8×List UInt8}:isM m x=false↔x≠m:=by
 constructor
 ·intro h e
  rw[qjj.2 e] at h
  cases h
 ·intro h
  cases e:isM m x with
  | false=>rfl
  | true=>exact absurd (qjj.1 e) h
structure LsOk (f:Mf):Prop where
 go:f.g=[]∨minorB f.g≠none
 most:f.rq.length≤200∧f.ex.length≤200∧f.rp.length≤200∧f.rt.length≤200
 rq:∀x∈f.rq,checkB x.1 x.2.1=0
 rqd:f.rq.Pairwise fun y x=>y.1≠x.1
 ex:∀x∈f.ex,checkB x.1 x.2=0
 exd:f.ex.Pairwise fun y x=>y≠x
 rp:∀x∈f.rp,rpE x=0
 rpd:f.rp.Pairwise fun y x=>y.1≠x.1
 rt:∀x∈f.rt,rtE x=0
 rtd:f.rt.Pairwise fun y x=>y≠x
theorem qeh {f:Mf}:mfE f=0↔pathB f.m=0∧LsOk f∧∀x∈f.rq,x.1≠f.m:=by
 constructor
 ·intro h
  obtain⟨h1,h2,h3,h4,h5,h6,h7⟩:=qne h
  rw[qmh] at h4
  rw[eachE,qet] at h5 h6 h7
  refine⟨h1,⟨h2,h3,fun x hx=>(h4.1 x hx).1,h4.2.2,fun x hx=>by have:=h5.1 x hx;omega,h5.2.2.imp fun h=>qe9.1 h,h6.1,h6.2.2.imp fun h=>qe9.1 h,h7.1,h7.2.2.imp fun h=>qe9.1 h⟩,fun x hx=>(h4.1 x hx).2⟩
 ·rintro⟨h1,⟨h2,h3,h4,h5,h6,h7,h8,h9,h10,h11⟩,h12⟩
  have a1:rqsF f.m [] f.rq=0:=(qmh _ _).2 ⟨fun x hx=>⟨h4 x hx,h12 x hx⟩,by simp,h5⟩
  have a2:eachE (fun x=>(checkB x.1 x.2:Int)) isM f.ex=0:=(qet _ _).2 ⟨fun x hx=>by have:=h6 x hx;omega,by simp,h7.imp fun h=>qe9.2 h⟩
  have a3:eachE rpE (fun x y=>isM x.1 y.1) f.rp=0:=(qet _ _).2 ⟨h8,by simp,h9.imp fun h=>qe9.2 h⟩
  have a4:eachE rtE isM f.rt=0:=(qet _ _).2 ⟨h10,by simp,h11.imp fun h=>qe9.2 h⟩
  have a5:headE f=0:=by
   have b1:¬(f.g≠[]∧minorB f.g=none):=fun ⟨k1,k2⟩=>by
    rcases h2 with h|h
    ·exact k1 h
    ·exact h k2
   have b2:¬200<mostM f:=by
    unfold mostM mxI
    obtain⟨c1,c2,c3,c4⟩:=h3
    (repeat' split)<;>omega
   unfold headE
   rw[if_neg b1,if_neg b2,h1]
   rfl
  unfold mfE tailE
  rw[a5,a1,a2,a3,a4];rfl
theorem LsOk.canon {f:Mf} (h:LsOk f):LsOk (canonM f):=by
 obtain⟨h2,h3,h4,h5,h6,h7,h8,h9,h10,h11⟩:=h
 refine⟨h2,?_,fun x hx=>h4 x (qa2.1 hx),?_,fun x hx=>h6 x (qa2.1 hx),?_,fun x hx=>h8 x (qa2.1 hx),?_,fun x hx=>h10 x (qa2.1 hx),?_⟩
 ·simp only[canonM,qaa];exact h3
 ·exact ((qa4 _).pairwise_iff fun h=>Ne.symm h).2 h5
 ·exact ((qa4 _).pairwise_iff fun h=>Ne.symm h).2 h7
 ·exact ((qa4 _).pairwise_iff fun h=>Ne.symm h).2 h9
 ·exact ((qa4 _).pairwise_iff fun h=>Ne.symm h).2 h11
theorem qcn {f:Mf} (h:mfE f=0):mfE (canonM f)=0:=by
 obtain⟨h1,h2,h3⟩:=qeh.1 h
 exact qeh.2 ⟨h1,h2.canon,fun x hx=>h3 x (qa2.1 hx)⟩
theorem qco (f:Mf):canonM (canonM f)=canonM f:=by
 simp only[canonM]
 rw[qdw TP.rqC,qdw TO.modC.tp,qdw TP.rpC,qdw TO.rtC.tp]
structure PInv (p:Ps):Prop where
 md:p.md=true→pathB p.f.m=0
 ls:LsOk p.f
def KpI (R:Ps→List Tok→Except Int Ps):Prop:=∀p l q,R p l=.ok q→PInv p→PInv q
theorem fst2' {u v:Int}:fstE [u,v]=0↔u=0∧v=0:=by
 show orI u (orI v 0)=0↔_
 rw[qe8,qe8];simp
theorem qjk {α:Type} {R:α→α→Prop} {l:List α} {x:α} (h:l.Pairwise R) (hx:∀y∈l,R y x):(l++[x]).Pairwise R:=by
 rw[List.pairwise_append]
 exact⟨h,by simp,fun y hy z hz=>by rw[List.mem_singleton.1 hz];exact hx y hy⟩
theorem qfy {α:Type} {P:α→Prop} {l:List α} {x:α} (h:∀y∈l,P y) (hx:P x):∀y∈l++[x],P y:=fun y hy=>by
 rcases List.mem_append.1 hy with hy|hy
 ·exact h y hy
 ·rw[List.mem_singleton.1 hy];exact hx
theorem qzg:KpI mdP:=by
 intro p l q h hi
 unfold mdP at h
 split at h
 ·obtain⟨rfl,h0⟩:=qbh h
  rw[fst2'] at h0
  exact⟨fun _=>by simp only;omega,{hi.ls with}⟩
 ·cases h
theorem qzh:KpI goP:=by
 intro p l q h hi
 unfold goP at h
 split at h
 ·rename_i s hw
  obtain⟨rfl,h0⟩:=qbh h
  rw[fst2'] at h0
  refine⟨hi.md,{hi.ls with go:=.inr fun e=>?_}⟩
  simp only at e
  rw[e] at h0
  cases h0.1
 ·cases h
theorem qzi:KpI rqP:=by
 intro p l q h hi
 unfold rqP at h
 split at h
 ·rename_i s v hw
  split at h
  ·cases h
  ·rename_i hr
   obtain⟨rfl,h0⟩:=qbh h
   rw[fst2] at h0
   obtain⟨h1,h2⟩:=h0
   simp only[List.any_eq_true,not_exists,not_and,isQ,beq_iff_eq] at h2
   have:=hi.ls.most
   exact⟨hi.md,{hi.ls with most:=⟨by simp;omega,this.2⟩,rq:=qfy hi.ls.rq (by simp only;omega),rqd:=qjk hi.ls.rqd fun y hy=>h2 y hy}⟩
 ·cases h
theorem qzj:KpI exP:=by
 intro p l q h hi
 unfold exP at h
 split at h
 ·rename_i s v hw
  split at h
  ·cases h
  ·rename_i hr
   obtain⟨rfl,h0⟩:=qbh h
   rw[fst2] at h0
   obtain⟨h1,h2⟩:=h0
   have h2':∀y∈p.f.ex,y≠(s,v):=fun y hy e=>h2 (List.any_eq_true.2 ⟨y,hy,by rw[e];simp⟩)
   have:=hi.ls.most
   exact⟨hi.md,{hi.ls with most:=⟨this.1,by simp;omega,this.2.2⟩,ex:=qfy hi.ls.ex (by simp only;omega),exd:=qjk hi.ls.exd fun y hy=>h2' y hy}⟩
 ·cases h
theorem qzk:KpI rpP:=by
 intro p l q h hi
 unfold rpP at h
 split at h
 ·rename_i r hw
  split at h
  ·cases h
  ·rename_i hr
   obtain⟨rfl,h0⟩:=qbh h
   rw[fst2] at h0
   obtain⟨h1,h2⟩:=h0
   have h2':∀y∈p.f.rp,y.1≠r.1:=fun y hy e=>h2 (List.any_eq_true.2 ⟨y,hy,qjj.2 e⟩)
   have:=hi.ls.most
   exact⟨hi.md,{hi.ls with most:=⟨this.1,this.2.1,by simp;omega,this.2.2.2⟩,rp:=qfy hi.ls.rp h1,rpd:=qjk hi.ls.rpd fun y hy=>h2' y hy}⟩
 ·cases h
theorem qzl:KpI rtP:=by
 intro p l q h hi
 unfold rtP at h
 split at h
 ·rename_i r hw
  split at h
  ·cases h
  ·rename_i hr
   obtain⟨rfl,h0⟩:=qbh h
   rw[fst2] at h0
   obtain⟨h1,h2⟩:=h0
   have h2':∀y∈p.f.rt,y≠r:=fun y hy e=>h2 (List.any_eq_true.2 ⟨y,hy,by rw[e];simp⟩)
   have:=hi.ls.most
   exact⟨hi.md,{hi.ls with most:=⟨this.1,this.2.1,this.2.2.1,by simp;omega⟩,rt:=qfy hi.ls.rt h1,rtd:=qjk hi.ls.rtd fun y hy=>h2' y hy}⟩
 ·cases h
theorem qnk {w:List UInt8} {g:FuncId} {R:Ps→List Tok→Except Int Ps} (h:stmG w=some (g,R)):KpI R:=by
 unfold stmG at h
 split at h
 ·injection h with h;injection h with h1 h2;subst h2;exact qzg
 split at h
 ·injection h with h;injection h with h1 h2;subst h2;exact qzh
 split at h
 ·injection h with h;injection h with h1 h2;subst h2;exact qzi
 split at h
 ·injection h with h;injection h with h1 h2;subst h2;exact qzj
 split at h
 ·injection h with h;injection h with h1 h2;subst h2;exact qzk
 split at h
 ·injection h with h;injection h with h1 h2;subst h2;exact qzl
 ·cases h
theorem PInv.same {p q:Ps} (h:PInv p) (h1:q.f=p.f) (h2:q.md=p.md):PInv q:=⟨by rw[h1,h2];exact h.md,by rw[h1];exact h.ls⟩
theorem qsp {p q:Ps} {l:List Tok} (h:lineP p l=.ok q) (hi:PInv p):PInv q:=by
 cases l with
 | nil=>simp only[lineP] at h;injection h with h;subst h;exact hi
 | cons t r =>
  simp only[lineP] at h
  split at h
  ·split at h
   ·injection h with h;subst h;exact hi.same rfl rfl
   ·split at h
    ·rename_i q0 hq;exact qnk hq _ _ _ h hi
    ·cases h
  ·split at h
   ·cases h
   ·rename_i q0 hq
    split at h
    ·injection h with h;subst h;exact hi.same rfl rfl
    ·exact qnk hq _ _ _ h hi
theorem qsq {p q:Ps} {s:List UInt8} (h:readP p s=.ok q) (hi:PInv p):PInv q:=by
 unfold readP at h
 split at h
 ·cases h
 ·split at h
  ·cases h
  ·exact qsp h (hi.same rfl rfl)
theorem qia:∀{l:List (List UInt8)} {p q:Ps},readLs p l=.ok q→PInv p→PInv q
 | [],p,q,h,hi=>by simp only[readLs] at h;injection h with h;subst h;exact hi
 | s::r,p,q,h,hi=>by
  simp only[readLs] at h
  split at h
  ·rename_i hq;exact qia h (qsq hq hi)
  ·cases h
theorem ps0_I:PInv ps0:=⟨by simp[ps0],⟨.inl rfl,by simp[ps0],by simp[ps0],by simp[ps0],by simp[ps0],by simp[ps0],by simp[ps0],by simp[ps0],by simp[ps0],by simp[ps0]⟩⟩
theorem parseP_okB {t:List UInt8} {h:Mf} (hp:parseP t=.ok h):∃q,readLs ps0 (lnT t)=.ok q∧endP q=.ok ()∧h=canonM q.f:=by
 unfold parseP at hp
 split at hp
 ·cases hp
 ·split at hp
  ·cases hp
  ·rename_i q hq
   split at hp
   ·cases hp
   ·rename_i he
    injection hp with hp
    exact⟨q,hq,he,hp.symm⟩
theorem qky {t:List UInt8} {h:Mf} (hp:parseP t=.ok h):mfE h=0∧canonM h=h:=by
 obtain⟨q,h1,h2,rfl⟩:=parseP_okB hp
 have hi:=qia h1 ps0_I
 unfold endP at h2
 split at h2
 ·cases h2
 ·split at h2
  ·cases h2
  ·rename_i hm
   split at h2
   ·cases h2
   ·rename_i hq
    refine⟨qcn (qeh.2 ⟨hi.md (by simpa using hm),hi.ls,fun x hx e=>hq (List.any_eq_true.2 ⟨x,hx,?_⟩)⟩),qco _⟩
    unfold isQ;rw[e];simp
end Go.Proofs.Tryz.Ai
end
section
namespace Go.Proofs.Tryz.Ai
open Go Go.AI Go.Proofs
set_option maxHeartbeats 4000000
set_option maxRecDepth 4000
set_option linter.unusedVariables false
theorem Wrd.nl {s:List UInt8} (h:Wrd s):(10:UInt8)∉s:=fun hm=>by have:=h.wd 10 hm;revert this;decide
theorem hd_no {c:UInt8} {r:List UInt8} (h:isWd c=false):∀d,(c::r).head? = some d→isWd d=false:=fun d e=>by injection e with e;rw[← e];exact h
theorem qzm:∃g,stmG mdW=some (g,mdP):=⟨_,by unfold stmG;rw[if_pos (by decide)]⟩
theorem qzn:∃g,stmG goW=some (g,goP):=⟨_,by unfold stmG;rw[if_neg (by decide),if_pos (by decide)]⟩
theorem qsr:∃g,stmG rqWd=some (g,rqP):=⟨_,by unfold stmG;rw[if_neg (by decide),if_neg (by decide),if_pos (by decide)]⟩
theorem qss:∃g,stmG exWd=some (g,exP):=⟨_,by unfold stmG;rw[if_neg (by decide),if_neg (by decide),if_neg (by decide),if_pos (by decide)]⟩
theorem qst:∃g,stmG rpWd=some (g,rpP):=⟨_,by unfold stmG;rw[if_neg (by decide),if_neg (by decide),if_neg (by decide),if_neg (by decide),if_pos (by decide)]⟩
theorem qsu:∃g,stmG rtWd=some (g,rtP):=⟨_,by unfold stmG;rw[if_neg (by decide),if_neg (by decide),if_neg (by decide),if_neg (by decide),if_neg (by decide),if_pos (by decide)]⟩
theorem qcp {p:Ps} {w:List UInt8} {t:Tok} {r:List Tok} {g:FuncId} {R:Ps→List Tok→Except Int Ps} (hb:p.blk=w) (hw:w≠[]) (hs:stmG w=some (g,R)) (hk:kindsB (t::r) [41]=false):lineP p (t::r)=R p (t::r):=by
 simp only[lineP]
 rw[if_pos (by rw[hb];exact hw),if_neg (by rw[hk];simp),hb,hs]
theorem qkz {p:Ps} {w:List UInt8} {r:List Tok} {g:FuncId} {R:Ps→List Tok→Except Int Ps} (hb:p.blk=[]) (hs:stmG w=some (g,R)) (hk:kindsB r [40]=false):lineP p ((119,w)::r)=R p r:=by
 simp only[lineP]
 rw[if_neg (by rw[hb];simp),hs]
 simp only
 rw[if_neg (by rw[hk];simp)]
def Nxt (p:Ps) (s:List UInt8) (f:Mf):Prop:=∃q,readP p s=.ok q∧q.f=f∧q.blk=p.blk∧q.md=p.md
theorem qd2 {e:Int} {q:Ps} (h:e=0):stE e q=.ok q:=by unfold stE;rw[if_pos h]
theorem fst_ok {u:Int} {c:Prop} [Decidable c] (h1:u=0) (h2:¬c):fstE [u,if c then 12 else 0]=0:=fst2.2 ⟨h1,h2⟩
theorem q2a {p:Ps} {x:Rq} (hb:p.blk=rqWd) (hc:checkB x.1 x.2.1=0) (hn:p.f.rq.length<200) (ha:∀y∈p.f.rq,y.1≠x.1):Nxt p (9::rqT x) {p.f with rq:=p.f.rq++[x]}:=by
 obtain⟨s,v,i⟩:=x
 simp only at hc ha
 obtain⟨h1,h2,h3,h4⟩:=qbf hc
 obtain⟨g,hg⟩:=qsr
 have hm:modT (s,v)=s++32::v:=by unfold modT;rw[if_neg h3.ne];simp
 have ha':¬p.f.rq.any (isQ s)=true:=fun e=>by
  obtain⟨y,hy,hq⟩:=List.any_eq_true.1 e
  exact ha y hy (by simpa[isQ] using hq)
 have hR:∀k i,rqP {p with line:=k,ind:=i} [(119,s),(119,v)]=.ok {p with line:=k,ind:=i,f:={p.f with rq:=p.f.rq++[(s,v,i)]}}:=by
  intro k i
  unfold rqP
  have:wordsB [(119,s),(119,v)] [119,119]=some [s,v]:=rfl
  rw[this]
  simp only
  rw[if_neg (by omega),qd2 (fst_ok (by omega) ha')]
 have hno:noC (9::(s++32::v))=true:=qaf (a:=[]) rfl (qaf h1.sl h3.sl (by decide)) (by decide)
 have hL:∀k i,lineP {p with line:=k,ind:=i} [(119,s),(119,v)]=.ok {p with line:=k,ind:=i,f:={p.f with rq:=p.f.rq++[(s,v,i)]}}:=fun k i=>by rw[qcp (w:=rqWd) (by exact hb) (by decide) hg (by rfl),hR]
 cases i with
 | false =>
  have e:9::rqT (s,v,false)=9::(s++32::v):=by simp[rqT,hm]
  unfold Nxt
  rw[e,qbg (l:=[(119,s),(119,v)]) (by simp;omega) hno (by rw[tok_tab,tok_word h1 (hd_no (by decide)),tok_bl,tok_end h3];rfl),hL]
  exact⟨_,rfl,rfl,rfl,rfl⟩
 | true =>
  have e:9::rqT (s,v,true)=(9::(s++32::v))++indT:=by simp[rqT,hm]
  unfold Nxt
  rw[e,qso (l:=[(119,s),(119,v)]) (by simp;omega) (qaf hno rfl (by decide)) (by rw[List.cons_append,List.append_assoc,List.cons_append,tok_tab,tok_word h1 (hd_no (by decide)),tok_bl,tok_word h3 (hd_no (by decide)),tok_bl,tokB_nil];rfl),hL]
  exact⟨_,rfl,rfl,rfl,rfl⟩
theorem q2b {p:Ps} {x:List UInt8×List UInt8} (hb:p.blk=exWd) (hc:checkB x.1 x.2=0) (hn:p.f.ex.length<200) (ha:∀y∈p.f.ex,y≠x):Nxt p (9::modT x) {p.f with ex:=p.f.ex++[x]}:=by
 obtain⟨s,v⟩:=x
 simp only at hc
 obtain⟨h1,h2,h3,h4⟩:=qbf hc
 obtain⟨g,hg⟩:=qss
 have hm:9::modT (s,v)=9::(s++32::v):=by unfold modT;rw[if_neg h3.ne];simp
 have ha':¬p.f.ex.any ((s,v)==·)=true:=fun e=>by
  obtain⟨y,hy,hq⟩:=List.any_eq_true.1 e
  exact ha y hy (by simpa using (beq_iff_eq.1 hq).symm)
 have hR:∀k i,exP {p with line:=k,ind:=i} [(119,s),(119,v)]=.ok {p with line:=k,ind:=i,f:={p.f with ex:=p.f.ex++[(s,v)]}}:=by
  intro k i
  unfold exP
  have:wordsB [(119,s),(119,v)] [119,119]=some [s,v]:=rfl
  rw[this]
  simp only
  rw[if_neg (by omega),qd2 (fst_ok (by omega) ha')]
 have hno:noC (9::(s++32::v))=true:=qaf (a:=[]) rfl (qaf h1.sl h3.sl (by decide)) (by decide)
 unfold Nxt
 rw[hm,qbg (l:=[(119,s),(119,v)]) (by simp;omega) hno (by rw[tok_tab,tok_word h1 (hd_no (by decide)),tok_bl,tok_end h3];rfl),qcp (w:=exWd) (by exact hb) (by decide) hg (by rfl),hR]
 exact⟨_,rfl,rfl,rfl,rfl⟩
theorem qjl {x:Rp}:rpE x=0↔pathB x.1.1=0∧(x.1.2=[]∨checkB x.1.1 x.1.2=0)∧checkB x.2.1 x.2.2=0:=by
 unfold rpE
 rw[fst2',fst2']
 by_cases h:x.1.2=[]
 ·simp[h]<;>omega
 ·simp[h]<;>omega
theorem q2c {p:Ps} {x:Rp} (hb:p.blk=rpWd) (hc:rpE x=0) (hn:p.f.rp.length<200) (ha:∀y∈p.f.rp,y.1≠x.1):Nxt p (9::rpT x) {p.f with rp:=p.f.rp++[x]}:=by
 obtain⟨⟨s,v⟩,c,d⟩:=x
 have hc0:=hc
 obtain⟨h1,h2,h3⟩:=qjl.1 hc
 simp only at h1 h2 h3 ha
 obtain⟨a1,a2⟩:=qc5 h1
 obtain⟨b1,b2,b3,b4⟩:=qbf h3
 obtain⟨g,hg⟩:=qst
 have hm2:modT (c,d)=c++32::d:=by unfold modT;rw[if_neg b3.ne];simp
 have ha':¬p.f.rp.any (fun x=>isM (s,v) x.1)=true:=fun e=>by
  obtain⟨y,hy,hq⟩:=List.any_eq_true.1 e
  exact ha y hy (qjj.1 hq)
 have hR:∀k i l,rpW l=some ((s,v),c,d)→rpP {p with line:=k,ind:=i} l=.ok {p with line:=k,ind:=i,f:={p.f with rp:=p.f.rp++[((s,v),c,d)]}}:=by
  intro k i l hl
  unfold rpP
  rw[hl]
  simp only
  rw[if_neg (by omega),qd2 (fst_ok hc0 ha')]
 have hno2:noC (61::62::32::(c++32::d))=true:=qaf (a:=[]) rfl (qaf (a:=[]) rfl (qaf (a:=[]) rfl (qaf b1.sl b3.sl (by decide)) (by decide)) (by decide)) (by decide)
 have ht2:tokB (61::62::32::(c++32::d))=some [(62,[]),(119,c),(119,d)]:=by
  rw[tok_ar,tok_word b1 (hd_no (by decide)),tok_bl,tok_end b3];rfl
 by_cases hv:v=[]
 ·subst hv
  have hm:9::rpT ((s,[]),c,d)=9::(s++32::61::62::32::(c++32::d)):=by simp[rpT,modT,b3.ne,arT]
  have hno:noC (9::(s++32::61::62::32::(c++32::d)))=true:=qaf (a:=[]) rfl (qaf a1.sl hno2 (by decide)) (by decide)
  unfold Nxt
  rw[hm,qbg (l:=[(119,s),(62,[]),(119,c),(119,d)]) (by simp;omega) hno (by rw[tok_tab,tok_word a1 (hd_no (by decide)),tok_bl,ht2];rfl),qcp (w:=rpWd) (by exact hb) (by decide) hg (by rfl),hR _ _ _ rfl]
  exact⟨_,rfl,rfl,rfl,rfl⟩
 ·have h2:checkB s v=0:=h2.resolve_left hv
  obtain⟨_,_,e3,e4⟩:=qbf h2
  have hm:9::rpT ((s,v),c,d)=9::(s++32::(v++32::61::62::32::(c++32::d))):=by simp[rpT,modT,b3.ne,hv,arT]
  have hno:noC (9::(s++32::(v++32::61::62::32::(c++32::d))))=true:=qaf (a:=[]) rfl (qaf a1.sl (qaf e3.sl hno2 (by decide)) (by decide)) (by decide)
  unfold Nxt
  rw[hm,qbg (l:=[(119,s),(119,v),(62,[]),(119,c),(119,d)]) (by simp;omega) hno (by rw[tok_tab,tok_word a1 (hd_no (by decide)),tok_bl,tok_word e3 (hd_no (by decide)),tok_bl,ht2];rfl),qcp (w:=rpWd) (by exact hb) (by decide) hg (by rfl),hR _ _ _ rfl]
  exact⟨_,rfl,rfl,rfl,rfl⟩
theorem qjm {x:Rt} (h:rtE x=0):readB x.1≠none∧readB x.2≠none:=by
 unfold rtE at h
 rw[fst2'] at h
 have h1:=h.1
 cases ha:readB x.1 with
 | none=>rw[ha] at h1;simp at h1
 | some a=>cases hb:readB x.2 with
  | none=>rw[ha,hb] at h1;simp at h1
  | some b=>simp
theorem q2d {p:Ps} {x:Rt} (hb:p.blk=rtWd) (hc:rtE x=0) (hn:p.f.rt.length<200) (ha:∀y∈p.f.rt,y≠x):Nxt p (9::rtT x) {p.f with rt:=p.f.rt++[x]}:=by
 obtain⟨s,v⟩:=x
 have hc0:=hc
 obtain⟨h1,h2⟩:=qjm hc
 simp only at h1 h2
 obtain⟨a1,a2⟩:=qeg h1
 obtain⟨b1,b2⟩:=qeg h2
 obtain⟨g,hg⟩:=qsu
 have ha':¬p.f.rt.any ((s,v)==·)=true:=fun e=>by
  obtain⟨y,hy,hq⟩:=List.any_eq_true.1 e
  exact ha y hy (by simpa using (beq_iff_eq.1 hq).symm)
 have hR:∀k i l,rtW l=some (s,v)→rtP {p with line:=k,ind:=i} l=.ok {p with line:=k,ind:=i,f:={p.f with rt:=p.f.rt++[(s,v)]}}:=by
  intro k i l hl
  unfold rtP
  rw[hl]
  simp only
  rw[if_neg (by omega),qd2 (fst_ok hc0 ha')]
 by_cases he:s=v
 ·subst he
  have hm:9::rtT (s,s)=9::s:=by simp[rtT]
  have hno:noC (9::s)=true:=qaf (a:=[]) rfl a1.sl (by decide)
  unfold Nxt
  rw[hm,qbg (l:=[(119,s)]) (by simp;omega) hno (by rw[tok_tab,tok_end a1]),qcp (w:=rtWd) (by exact hb) (by decide) hg (by rfl),hR _ _ _ rfl]
  exact⟨_,rfl,rfl,rfl,rfl⟩
 ·have hm:9::rtT (s,v)=9::91::(s++44::32::(v++93::[])):=by simp[rtT,he]
  have hno:noC (9::91::(s++44::32::(v++93::[])))=true:=qaf (a:=[]) rfl (qaf (a:=[]) rfl (qaf a1.sl (qaf (a:=[]) rfl (qaf b1.sl rfl (by decide)) (by decide)) (by decide)) (by decide)) (by decide)
  unfold Nxt
  rw[hm,qbg (l:=[(91,[]),(119,s),(44,[]),(119,v),(93,[])]) (by simp;omega) hno (by rw[tok_tab,tok_mk (by decide),tok_word a1 (hd_no (by decide)),tok_mk (by decide),tok_bl,tok_word b1 (hd_no (by decide)),tok_mk (by decide),tokB_nil];rfl),qcp (w:=rtWd) (by exact hb) (by decide) hg (by rfl),hR _ _ _ rfl]
  exact⟨_,rfl,rfl,rfl,rfl⟩
theorem qbx:∀{a b:List (List UInt8)} {p q:Ps},readLs p a=.ok q→readLs p (a++b)=readLs q b
 | [],b,p,q,h=>by simp only[readLs] at h;injection h with h;rw[h];rfl
 | s::a,b,p,q,h=>by
  simp only[readLs,List.cons_append] at h ⊢
  split at h
  ·exact qbx h
  ·cases h
theorem qk0 {α:Type} {w:List UInt8} {line:α→List UInt8} {put:List α→Mf} {L:List α}
  (step:∀(p:Ps) (a:List α) (x:α) (b:List α),L=a++x::b→p.blk=w→p.f=put a→Nxt p (9::line x) (put (a++[x]))) :
  ∀(b a:List α) (p:Ps),L=a++b→p.blk=w→p.f=put a→∃q,readLs p (b.map fun x=>9::line x)=.ok q∧q.f=put L∧q.blk=p.blk∧q.md=p.md
 | [],a,p,h,hb,hf=>⟨p,rfl,by rw[hf,h,List.append_nil],rfl,rfl⟩
 | x::b,a,p,h,hb,hf=>by
  obtain⟨q,h1,h2,h3,h4⟩:=step p a x b h hb hf
  obtain⟨r,k1,k2,k3,k4⟩:=qk0 step b (a++[x]) q (by rw[h];simp) (by rw[h3,hb]) h2
  exact⟨r,by simp only[List.map_cons,readLs,h1];exact k1,k2,k3.trans h3,k4.trans h4⟩
def blkL {α:Type} (w:List UInt8) (L:List α) (line:α→List UInt8):List (List UInt8):=if L=[] then [] else []::(w++[32,40])::((L.map fun x=>9::line x)++[[41]])
theorem qk1 (p:Ps):readP p []=.ok {p with line:=p.line+1,ind:=false}:=by rw[qbg (l:=[]) (by simp) rfl tokB_nil];rfl
theorem qsv {p:Ps} (h:p.blk≠[]):readP p [41]=.ok {p with line:=p.line+1,ind:=false,blk:=[]}:=by
 rw[qbg (l:=[(41,[])]) (by simp) rfl (by rw[tok_mk (by decide),tokB_nil];rfl)]
 simp only[lineP]
 rw[if_pos h];rfl
theorem qfz {α:Type} {w:List UInt8} {g:FuncId} {R:Ps→List Tok→Except Int Ps} (hw:Wrd w) (hwl:w.length≤900) (h1:w≠mdW) (h2:w≠goW) (hs:stmG w=some (g,R)) {line:α→List UInt8} {put:List α→Mf} {L:List α}
  (step:∀(p:Ps) (a:List α) (x:α) (b:List α),L=a++x::b→p.blk=w→p.f=put a→Nxt p (9::line x) (put (a++[x]))) {p:Ps} (hb:p.blk=[]) (hf:p.f=put []) :
  ∃q,readLs p (blkL w L line)=.ok q∧q.f=put L∧q.blk=[]∧q.md=p.md:=by
 unfold blkL
 split
 ·rename_i e;subst e;exact⟨p,rfl,hf,hb,rfl⟩
 ·have e1:=qk1 p
  obtain⟨p1,hp1⟩:∃p1:Ps,{p with line:=p.line+1,ind:=false}=p1:=⟨_,rfl⟩
  have e2:readP p1 (w++[32,40])=.ok {p1 with line:=p1.line+1,ind:=false,blk:=w}:=by
   rw[qbg (l:=[(119,w),(40,[])]) (by simp;omega) (qaf hw.sl rfl (by decide)) (by rw[tok_word hw (hd_no (by decide)),tok_bl,tok_mk (by decide),tokB_nil];rfl)]
   simp only[lineP]
   rw[if_neg (by rw[← hp1];simp[hb]),hs]
   simp only
   rw[if_pos ⟨by rfl,h1,h2⟩]
  obtain⟨p2,hp2⟩:∃p2:Ps,{p1 with line:=p1.line+1,ind:=false,blk:=w}=p2:=⟨_,rfl⟩
  obtain⟨q,k1,k2,k3,k4⟩:=qk0 step L [] p2 rfl (by rw[← hp2]) (by rw[← hp2,← hp1];exact hf)
  have e3:=qsv (p:=q) (by rw[k3,← hp2];exact hw.ne)
  refine⟨{q with line:=q.line+1,ind:=false,blk:=[]},?_,k2,rfl,?_⟩
  ·simp only[readLs,e1,hp1,e2,hp2]
   rw[qbx k1]
   simp only[readLs,e3]
  ·simp only;rw[k4,← hp2,← hp1]
theorem qnl (t:List UInt8):∀{ls:List (List UInt8)},(∀s∈ls,(10:UInt8)∉s)→lnT (ls.flatMap rowT++t)=ls.map (9::·)++lnT t
 | [],_=>rfl
 | s::r,h=>by
  have e:(s::r).flatMap rowT++t=(9::s)++10::(r.flatMap rowT++t):=by simp[rowT]
  rw[e,qef (by simp only[List.mem_cons,not_or];exact⟨by decide,h s (by simp)⟩),qnl t fun x hx=>h x (List.mem_cons_of_mem _ hx)]
  rfl
theorem qjn {α:Type} {w:List UInt8} (hw:(10:UInt8)∉w) {L:List α} {line:α→List UInt8} (h:∀x∈L,(10:UInt8)∉line x) (t:List UInt8):lnT (blkT w (L.map line)++t)=blkL w L line++lnT t:=by
 unfold blkT blkL
 by_cases e:L=[]
 ·subst e;rfl
 ·rw[if_neg (by simpa using e),if_neg e]
  have e1:[10]++w++[32,40,10]++(L.map line).flatMap rowT++[41,10]++t=[]++10::((w++[32,40])++10::((L.map line).flatMap rowT++([41]++10::t))):=by simp
  rw[e1,qef (by simp),qef (by simp[hw]),qnl _ (by simpa using h),qef (by simp)]
  simp
theorem qk2 {m:List UInt8×List UInt8} (h1:(10:UInt8)∉m.1) (h2:(10:UInt8)∉m.2):(10:UInt8)∉modT m:=by
 unfold modT;split
 ·exact h1
 ·simp[h1,h2]
theorem qf0 {p v:List UInt8} (h:checkB p v=0):(10:UInt8)∉p∧(10:UInt8)∉v:=by
 obtain⟨h1,_,h3,_⟩:=qbf h
 exact⟨h1.nl,h3.nl⟩
def fmtL (f:Mf):List (List UInt8):=(moT++f.m)::((if f.g=[] then [] else [[],[103,111,32]++f.g])++(blkL rqWd f.rq rqT++(blkL exWd f.ex modT++(blkL rpWd f.rp rpT++blkL rtWd f.rt rtT))))
theorem qzo {f:Mf} (h:mfE f=0):lnT (fmtM f)=fmtL f:=by
 obtain⟨h1,hl,_⟩:=qeh.1 h
 have hm:(10:UInt8)∉moT++f.m:=by
  simp only[List.mem_append,not_or];exact⟨by decide,(qc5 h1).1.nl⟩
 have hq:∀x∈f.rq,(10:UInt8)∉rqT x:=fun x hx=>by
  obtain⟨a,b⟩:=qf0 (hl.rq x hx)
  unfold rqT;split
  ·simp only[List.mem_append,not_or];exact⟨qk2 a b,by decide⟩
  ·exact qk2 a b
 have he:∀x∈f.ex,(10:UInt8)∉modT x:=fun x hx=>by
  obtain⟨a,b⟩:=qf0 (hl.ex x hx);exact qk2 a b
 have hp:∀x∈f.rp,(10:UInt8)∉rpT x:=fun x hx=>by
  obtain⟨a,b,c⟩:=qjl.1 (hl.rp x hx)
  obtain⟨c1,c2⟩:=qf0 c
  unfold rpT
  simp only[List.mem_append,not_or]
  refine⟨⟨qk2 (qc5 a).1.nl ?_,by decide⟩,qk2 c1 c2⟩
  rcases b with b|b
  ·rw[b];simp
  ·exact (qf0 b).2
 have ht:∀x∈f.rt,(10:UInt8)∉rtT x:=fun x hx=>by
  obtain⟨a,b⟩:=qjm (hl.rt x hx)
  have a1:=(qeg a).1.nl
  have b1:=(qeg b).1.nl
  unfold rtT;split
  ·exact a1
  ·simp[a1,b1]
 have e:fmtM f=(moT++f.m)++10::(goL f.g++(blkT rqWd (f.rq.map rqT)++(blkT exWd (f.ex.map modT)++(blkT rpWd (f.rp.map rpT)++(blkT rtWd (f.rt.map rtT)++[]))))):=by simp[fmtM]
 have hg:∀t,lnT (goL f.g++t)=(if f.g=[] then [] else [[],[103,111,32]++f.g])++lnT t:=by
  intro t
  unfold goL
  by_cases k:f.g=[]
  ·rw[if_pos k,if_pos k];rfl
  ·rw[if_neg k,if_neg k]
   have e1:gT++f.g++[10]++t=[]++10::(([103,111,32]++f.g)++10::t):=by simp[gT]
   have hn:(10:UInt8)∉[103,111,32]++f.g:=by
    simp only[List.mem_append,not_or];exact⟨by decide,(qmg (hl.go.resolve_left k)).1.nl⟩
   rw[e1,qef (by simp),qef hn];rfl
 rw[e,qef hm,hg,qjn (by decide) hq,qjn (by decide) he,qjn (by decide) hp,qjn (by decide) ht,qg1,List.append_nil]
 rfl
theorem qo3 {s:List UInt8} (h:(s≠[]&&s.all isWd&&noC s&&!(s==[61,62]))=true):Wrd s:=by
 simp only[Bool.and_eq_true,decide_eq_true_eq,List.all_eq_true,Bool.not_eq_true',beq_eq_false_iff_ne] at h
 exact⟨h.1.1.1,h.1.1.2,h.1.2,h.2⟩
theorem bef {α:Type} {R:α→α→Prop} {a b:List α} {x:α} (h:(a++x::b).Pairwise R):∀y∈a,R y x:=fun y hy=>(List.pairwise_append.1 h).2.2 y hy x (by simp)
theorem qjo {f:Mf} (h:mfE f=0) (hl:(fmtM f).length≤65536) (hc:canonM f=f):parseP (fmtM f)=.ok f:=by
 obtain⟨h1,hk,h3⟩:=qeh.1 h
 obtain⟨wm,lm⟩:=qc5 h1
 obtain⟨g1,hg1⟩:=qzm
 obtain⟨g2,hg2⟩:=qzn
 have hmd:Wrd mdW:=qo3 (by decide)
 have hgo:Wrd goW:=qo3 (by decide)
 obtain⟨m,g,rq,ex,rp,rt⟩:=f
 simp only at h1 h3 wm lm
 obtain⟨k1,k2,k3,k4,k5,k6,k7,k8,k9,k10⟩:=hk
 simp only at k1 k2 k3 k4 k5 k6 k7 k8 k9 k10
 have s0:∃q,readP ps0 (moT++m)=.ok q∧q.f=⟨m,[],[],[],[],[]⟩∧q.blk=[]∧q.md=true:=by
  have e:moT++m=mdW++32::m:=by simp[moT,mdW]
  rw[e,qbg (l:=[(119,mdW),(119,m)]) (by simp[mdW];omega) (qaf hmd.sl wm.sl (by decide)) (by rw[tok_word hmd (hd_no (by decide)),tok_bl,tok_end wm];rfl),qkz (by rfl) hg1 (by rfl)]
  unfold mdP
  have:wordsB [(119,m)] [119]=some [m]:=rfl
  rw[this]
  simp only
  rw[qd2 (fst2'.2 ⟨by rfl,by omega⟩)]
  exact⟨_,rfl,rfl,rfl,rfl⟩
 obtain⟨q0,a1,a2,a3,a4⟩:=s0
 have s1:∃q,readLs q0 (if g=[] then [] else [[],[103,111,32]++g])=.ok q∧q.f=⟨m,g,[],[],[],[]⟩∧q.blk=[]∧q.md=true:=by
  by_cases hg:g=[]
  ·subst hg;rw[if_pos rfl];exact⟨q0,rfl,a2,a3,a4⟩
  ·rw[if_neg hg]
   have hn:=k1.resolve_left hg
   obtain⟨wg,lg⟩:=qmg hn
   have e:[103,111,32]++g=goW++32::g:=by simp[goW]
   have hs:(minorB g).isSome=true:=by cases hx:minorB g with
    | none=>exact absurd hx hn
    | some _=>rfl
   simp only[readLs,qk1]
   rw[e,qbg (l:=[(119,goW),(119,g)]) (by simp[goW];omega) (qaf hgo.sl wg.sl (by decide)) (by rw[tok_word hgo (hd_no (by decide)),tok_bl,tok_end wg];rfl),qkz (by exact a3) hg2 (by rfl)]
   unfold goP
   have:wordsB [(119,g)] [119]=some [g]:=rfl
   rw[this]
   simp only
   rw[qd2 (fst2'.2 ⟨by rw[if_pos hs],by rw[a2];rfl⟩)]
   exact⟨_,rfl,by simp only[a2],a3,a4⟩
 obtain⟨q1,b1,b2,b3,b4⟩:=s1
 obtain⟨g3,hg3⟩:=qsr
 obtain⟨g4,hg4⟩:=qss
 obtain⟨g5,hg5⟩:=qst
 obtain⟨g6,hg6⟩:=qsu
 obtain⟨q2,c1,c2,c3,c4⟩:=qfz (p:=q1) (w:=rqWd) (put:=fun l=>⟨m,g,l,[],[],[]⟩) (line:=rqT) (L:=rq) (qo3 (by decide)) (by decide) (by decide) (by decide) hg3
  (fun p a x b e hb hf=>by
   have:=q2a (p:=p) (x:=x) hb (k3 x (by rw[e];simp)) (by rw[hf];have:=k2.1;rw[e] at this;simp at this ⊢;omega) (by rw[hf];exact bef (by rw[← e];exact k4))
   rw[hf] at this;exact this) b3 b2
 obtain⟨q3,d1,d2,d3,d4⟩:=qfz (p:=q2) (w:=exWd) (put:=fun l=>⟨m,g,rq,l,[],[]⟩) (line:=modT) (L:=ex) (qo3 (by decide)) (by decide) (by decide) (by decide) hg4
  (fun p a x b e hb hf=>by
   have:=q2b (p:=p) (x:=x) hb (k5 x (by rw[e];simp)) (by rw[hf];have:=k2.2.1;rw[e] at this;simp at this ⊢;omega) (by rw[hf];exact bef (by rw[← e];exact k6))
   rw[hf] at this;exact this) c3 c2
 obtain⟨q4,e1,e2,e3,e4⟩:=qfz (p:=q3) (w:=rpWd) (put:=fun l=>⟨m,g,rq,ex,l,[]⟩) (line:=rpT) (L:=rp) (qo3 (by decide)) (by decide) (by decide) (by decide) hg5
  (fun p a x b e hb hf=>by
   have:=q2c (p:=p) (x:=x) hb (k7 x (by rw[e];simp)) (by rw[hf];have:=k2.2.2.1;rw[e] at this;simp at this ⊢;omega) (by rw[hf];exact bef (by rw[← e];exact k8))
   rw[hf] at this;exact this) d3 d2
 obtain⟨q5,f1,f2,f3,f4⟩:=qfz (p:=q4) (w:=rtWd) (put:=fun l=>⟨m,g,rq,ex,rp,l⟩) (line:=rtT) (L:=rt) (qo3 (by decide)) (by decide) (by decide) (by decide) hg6
  (fun p a x b e hb hf=>by
   have:=q2d (p:=p) (x:=x) hb (k9 x (by rw[e];simp)) (by rw[hf];have:=k2.2.2.2;rw[e] at this;simp at this ⊢;omega) (by rw[hf];exact bef (by rw[← e];exact k10))
   rw[hf] at this;exact this) e3 e2
 have hall:readLs ps0 (fmtL ⟨m,g,rq,ex,rp,rt⟩)=.ok q5:=by
  unfold fmtL
  simp only[readLs,a1]
  rw[qbx b1,qbx c1,qbx d1,qbx e1,f1]
 have hend:endP q5=.ok ():=by
  unfold endP
  rw[if_neg (by rw[f3];simp),if_neg (by rw[f4,e4,d4,c4,b4];simp),if_neg]
  rw[f2]
  intro e
  obtain⟨y,hy,hq⟩:=List.any_eq_true.1 e
  exact h3 y hy (by simpa[isQ] using hq)
 unfold parseP
 rw[if_neg (by omega),qzo h,hall]
 simp only
 rw[hend]
 simp only
 rw[f2,hc]
end Go.Proofs.Tryz.Ai
end
section
namespace Go.Proofs.Tryz.Ai
open Go Go.AI Go.Proofs
set_option maxHeartbeats 4000000
set_option maxRecDepth 4000
set_option linter.unusedVariables false
theorem tokB_le {s:List UInt8} {l:List Tok} (h:tokB s=some l):∀t∈l,t.2.length≤s.length:=fun t ht=>(tokF_len _ _ _ h).2 t ht
theorem qal {l:List Tok} {n:Nat} (hl:∀t∈l,t.2.length≤n) {k:List UInt8} {ws:List (List UInt8)} (h:wordsB l k=some ws) {s:List UInt8} (hs:s∈ws):s.length≤n:=by
 unfold wordsB at h
 split at h
 ·injection h with h
  subst h
  unfold textsB at hs
  obtain⟨t,ht,rfl⟩:=List.mem_map.1 hs
  exact hl t (List.mem_filter.1 ht).1
 ·cases h
def szF (f:Mf):Nat:=f.m.length+f.g.length+(f.rq.map fun x=>x.1.length+x.2.1.length).sum+(f.ex.map fun x=>x.1.length+x.2.length).sum+(f.rp.map fun x=>x.1.1.length+x.1.2.length+x.2.1.length+x.2.2.length).sum+(f.rt.map fun x=>x.1.length+x.2.length).sum
def KpS (R:Ps→List Tok→Except Int Ps):Prop:=∀p l q n,R p l=.ok q→(∀t∈l,t.2.length≤n)→szF q.f≤szF p.f+4*n
theorem qzp:KpS mdP:=by
 intro p l q n h hl
 unfold mdP at h
 split at h
 ·rename_i s hw
  obtain⟨rfl,_⟩:=qbh h
  have hs:=qal hl hw (List.mem_singleton_self s)
  unfold szF;simp only;omega
 ·cases h
theorem qzq:KpS goP:=by
 intro p l q n h hl
 unfold goP at h
 split at h
 ·rename_i s hw
  obtain⟨rfl,_⟩:=qbh h
  have hs:=qal hl hw (List.mem_singleton_self s)
  unfold szF;simp only;omega
 ·cases h
theorem qzr:KpS rqP:=by
 intro p l q n h hl
 unfold rqP at h
 split at h
 ·rename_i s v hw
  split at h
  ·cases h
  ·obtain⟨rfl,_⟩:=qbh h
   have hs:=qal hl hw (s:=s) (by simp)
   have hv:=qal hl hw (s:=v) (by simp)
   unfold szF;simp only[List.map_append,List.sum_append,List.map_cons,List.map_nil,List.sum_cons,List.sum_nil];omega
 ·cases h
theorem qzs:KpS exP:=by
 intro p l q n h hl
 unfold exP at h
 split at h
 ·rename_i s v hw
  split at h
  ·cases h
  ·obtain⟨rfl,_⟩:=qbh h
   have hs:=qal hl hw (s:=s) (by simp)
   have hv:=qal hl hw (s:=v) (by simp)
   unfold szF;simp only[List.map_append,List.sum_append,List.map_cons,List.map_nil,List.sum_cons,List.sum_nil];omega
 ·cases h
theorem q2e {l:List Tok} {n:Nat} (hl:∀t∈l,t.2.length≤n) {r:Rp} (h:rpW l=some r):r.1.1.length+r.1.2.length+r.2.1.length+r.2.2.length≤4*n:=by
 unfold rpW at h
 split at h
 ·rename_i a c d hw
  injection h with h;subst h
  have ha:=qal hl hw (s:=a) (by simp)
  have hc:=qal hl hw (s:=c) (by simp)
  have hd:=qal hl hw (s:=d) (by simp)
  simp only[List.length_nil];omega
 ·split at h
  ·rename_i a b c d hw
   injection h with h;subst h
   have ha:=qal hl hw (s:=a) (by simp)
   have hb:=qal hl hw (s:=b) (by simp)
   have hc:=qal hl hw (s:=c) (by simp)
   have hd:=qal hl hw (s:=d) (by simp)
   simp only;omega
  ·cases h
theorem qzt:KpS rpP:=by
 intro p l q n h hl
 unfold rpP at h
 split at h
 ·rename_i r hw
  split at h
  ·cases h
  ·obtain⟨rfl,_⟩:=qbh h
   have hs:=q2e hl hw
   unfold szF;simp only[List.map_append,List.sum_append,List.map_cons,List.map_nil,List.sum_cons,List.sum_nil];omega
 ·cases h
theorem q2f {l:List Tok} {n:Nat} (hl:∀t∈l,t.2.length≤n) {r:Rt} (h:rtW l=some r):r.1.length+r.2.length≤2*n:=by
 unfold rtW at h
 split at h
 ·rename_i a hw
  injection h with h;subst h
  have ha:=qal hl hw (s:=a) (by simp)
  simp only;omega
 ·split at h
  ·rename_i a b hw
   injection h with h;subst h
   have ha:=qal hl hw (s:=a) (by simp)
   have hb:=qal hl hw (s:=b) (by simp)
   simp only;omega
  ·cases h
theorem qzu:KpS rtP:=by
 intro p l q n h hl
 unfold rtP at h
 split at h
 ·rename_i r hw
  split at h
  ·cases h
  ·obtain⟨rfl,_⟩:=qbh h
   have hs:=q2f hl hw
   unfold szF;simp only[List.map_append,List.sum_append,List.map_cons,List.map_nil,List.sum_cons,List.sum_nil];omega
 ·cases h
theorem qnm {w:List UInt8} {g:FuncId} {R:Ps→List Tok→Except Int Ps} (h:stmG w=some (g,R)):KpS R:=by
 unfold stmG at h
 split at h
 ·injection h with h;injection h with h1 h2;subst h2;exact qzp
 split at h
 ·injection h with h;injection h with h1 h2;subst h2;exact qzq
 split at h
 ·injection h with h;injection h with h1 h2;subst h2;exact qzr
 split at h
 ·injection h with h;injection h with h1 h2;subst h2;exact qzs
 split at h
 ·injection h with h;injection h with h1 h2;subst h2;exact qzt
 split at h
 ·injection h with h;injection h with h1 h2;subst h2;exact qzu
 ·cases h
theorem qsw {p q:Ps} {l:List Tok} {n:Nat} (h:lineP p l=.ok q) (hl:∀t∈l,t.2.length≤n):szF q.f≤szF p.f+4*n:=by
 cases l with
 | nil=>simp only[lineP] at h;injection h with h;subst h;omega
 | cons t r =>
  simp only[lineP] at h
  split at h
  ·split at h
   ·injection h with h;subst h;simp only;omega
   ·split at h
    ·rename_i q0 hq;exact qnm hq _ _ _ _ h hl
    ·cases h
  ·split at h
   ·cases h
   ·rename_i q0 hq
    split at h
    ·injection h with h;subst h;simp only;omega
    ·exact qnm hq _ _ _ _ h fun t ht=>hl t (List.mem_cons_of_mem _ ht)
theorem qsx {p q:Ps} {s:List UInt8} (h:readP p s=.ok q):szF q.f≤szF p.f+4*s.length:=by
 unfold readP at h
 split at h
 ·cases h
 ·split at h
  ·cases h
  ·rename_i l hl
   have h1:=(qc3 s [47,47]).1
   exact qsw (p:={p with line:=p.line+1,ind:=trP (Lib.cut s [47,47]).2.1}) h fun t ht=>Nat.le_trans (tokB_le hl t ht) h1
theorem qib:∀{l:List (List UInt8)} {p q:Ps},readLs p l=.ok q→szF q.f≤szF p.f+4*(l.map List.length).sum
 | [],p,q,h=>by simp only[readLs] at h;injection h with h;subst h;omega
 | s::r,p,q,h=>by
  simp only[readLs] at h
  split at h
  ·rename_i hq
   have h1:=qib h
   have h2:=qsx hq
   simp only[List.map_cons,List.sum_cons];omega
  ·cases h
theorem qzv (s:List UInt8):(Lib.cut s [10]).1.length+(Lib.cut s [10]).2.1.length≤s.length:=by
 unfold Lib.cut
 split
 ·simp;omega
 ·simp
theorem qsy:∀(n:Nat) (s:List UInt8),s.length≤n→((lnT s).map List.length).sum≤s.length
 | n,s,hn=>by
  by_cases h0:s=[]
  ·subst h0;simp[qg1]
  ·have h1:=qc4 h0
   have h2:=qzv s
   rw[qd1 h0]
   cases n with
   | zero=>exact absurd (List.eq_nil_of_length_eq_zero (by omega)) h0
   | succ n =>
    have:=qsy n (Lib.cut s [10]).2.1 (by omega)
    simp only[List.map_cons,List.sum_cons];omega
theorem qf1 {a b:List Nat} (h:a.Perm b):a.sum=b.sum:=by
 induction h with
 | nil=>rfl
 | cons x _ ih=>simp only[List.sum_cons];omega
 | swap x y l=>simp only[List.sum_cons];omega
 | trans _ _ h1 h2=>omega
theorem qsz (f:Mf):szF (canonM f)=szF f:=by
 unfold szF canonM
 simp only
 rw[qf1 ((qa4 (c:=rqC) f.rq).map _),qf1 ((qa4 (c:=modC) f.ex).map _),qf1 ((qa4 (c:=rpC) f.rp).map _),qf1 ((qa4 (c:=rtC) f.rt).map _)]
theorem qw0 {α:Type} {f g:α→Nat} {c:Nat} (h:∀x,f x≤g x+c):∀L:List α,(L.map f).sum≤(L.map g).sum+c*L.length
 | []=>by simp
 | x::r=>by
  have h1:=h x
  have h2:=qw0 h r
  simp only[List.map_cons,List.sum_cons,List.length_cons,Nat.mul_add];omega
theorem flat_len:∀ls:List (List UInt8),(ls.flatMap rowT).length=(ls.map List.length).sum+2*ls.length
 | []=>rfl
 | s::r=>by
  have:=flat_len r
  simp only[List.flatMap_cons,List.length_append,this,rowT,List.map_cons,List.sum_cons,List.length_cons,List.length_nil];omega
theorem qnn {α:Type} {w:List UInt8} {L:List α} {line:α→List UInt8} {g:α→Nat} {c:Nat} (h:∀x,(line x).length≤g x+c):(blkT w (L.map line)).length≤w.length+6+(L.map g).sum+(c+2)*L.length:=by
 have h1:=qw0 (f:=fun x=>(line x).length) h L
 unfold blkT
 split
 ·simp
 ·simp only[List.length_append,List.length_cons,List.length_nil,flat_len,List.map_map,List.length_map]
  have e:(List.length∘line)=fun x=>(line x).length:=rfl
  rw[e,Nat.add_mul];omega
theorem qjp (m:List UInt8×List UInt8):(modT m).length≤m.1.length+m.2.length+1:=by
 unfold modT;split
 ·omega
 ·simp only[List.length_append,List.length_cons,List.length_nil];omega
theorem fmt_le {f:Mf} (h:f.rq.length≤200∧f.ex.length≤200∧f.rp.length≤200∧f.rt.length≤200):(fmtM f).length≤szF f+8000:=by
 have h1:=qnn (w:=rqWd) (L:=f.rq) (line:=rqT) (g:=fun x=>x.1.length+x.2.1.length) (c:=13) fun x=>by
  have:=qjp (x.1,x.2.1)
  unfold rqT;split<;>simp[indT] at this ⊢<;>omega
 have h2:=qnn (w:=exWd) (L:=f.ex) (line:=modT) (g:=fun x=>x.1.length+x.2.length) (c:=1) fun x=>qjp x
 have h3:=qnn (w:=rpWd) (L:=f.rp) (line:=rpT) (g:=fun x=>x.1.1.length+x.1.2.length+x.2.1.length+x.2.2.length) (c:=6) fun x=>by
  have k1:=qjp x.1
  have k2:=qjp x.2
  simp only[rpT,arT,List.length_append,List.length_cons,List.length_nil];omega
 have h4:=qnn (w:=rtWd) (L:=f.rt) (line:=rtT) (g:=fun x=>x.1.length+x.2.length) (c:=4) fun x=>by
  unfold rtT;split
  ·omega
  ·simp only[List.length_append,List.length_cons,List.length_nil];omega
 have h5:(goL f.g).length≤f.g.length+5:=by unfold goL;split<;>simp[gT]
 have w1:rqWd.length=7:=rfl
 have w2:exWd.length=7:=rfl
 have w3:rpWd.length=7:=rfl
 have w4:rtWd.length=7:=rfl
 have w5:moT.length=7:=rfl
 unfold fmtM szF
 simp only[List.length_append,List.length_cons,List.length_nil]
 omega
theorem qmi {t:List UInt8} {h:Mf} (hp:parseP t=.ok h) (hl:t.length≤4000):(fmtM h).length≤65536:=by
 have h1:=(qeh.1 (qky hp).1).2.1.most
 obtain⟨q,h2,_,rfl⟩:=parseP_okB hp
 have h3:=qib h2
 have h4:=qsy t.length t (Nat.le_refl _)
 have h5:=fmt_le h1
 rw[qsz] at h5
 have h6:szF ps0.f=0:=rfl
 omega
end Go.Proofs.Tryz.Ai
end
section
namespace Go.Proofs.Tryz.Ai
open Go Go.AI Go.Proofs
set_option maxHeartbeats 4000000
set_option maxRecDepth 4000
set_option linter.unusedVariables false
theorem qfb {e x:Int} {q:Ps} (h:stE e q=.error x):x≠0:=by
 unfold stE at h
 split at h
 ·cases h
 ·rename_i he
  injection h with h;rw[← h];exact he
def KpE (R:Ps→List Tok→Except Int Ps):Prop:=∀p l e,R p l=.error e→e≠0
theorem qzx:KpE mdP:=by
 intro p l e h
 unfold mdP at h
 split at h
 ·exact qfb h
 ·injection h with h;rw[← h];decide
theorem qzy:KpE goP:=by
 intro p l e h
 unfold goP at h
 split at h
 ·exact qfb h
 ·injection h with h;rw[← h];decide
theorem qzz:KpE rqP:=by
 intro p l e h
 unfold rqP at h
 split at h
 ·split at h
  ·injection h with h;rw[← h];decide
  ·exact qfb h
 ·injection h with h;rw[← h];decide
theorem qz0:KpE exP:=by
 intro p l e h
 unfold exP at h
 split at h
 ·split at h
  ·injection h with h;rw[← h];decide
  ·exact qfb h
 ·injection h with h;rw[← h];decide
theorem qz1:KpE rpP:=by
 intro p l e h
 unfold rpP at h
 split at h
 ·split at h
  ·injection h with h;rw[← h];decide
  ·exact qfb h
 ·injection h with h;rw[← h];decide
theorem qz2:KpE rtP:=by
 intro p l e h
 unfold rtP at h
 split at h
 ·split at h
  ·injection h with h;rw[← h];decide
  ·exact qfb h
 ·injection h with h;rw[← h];decide
theorem qnp {w:List UInt8} {g:FuncId} {R:Ps→List Tok→Except Int Ps} (h:stmG w=some (g,R)):KpE R:=by
 unfold stmG at h
 split at h
 ·injection h with h;injection h with h1 h2;subst h2;exact qzx
 split at h
 ·injection h with h;injection h with h1 h2;subst h2;exact qzy
 split at h
 ·injection h with h;injection h with h1 h2;subst h2;exact qzz
 split at h
 ·injection h with h;injection h with h1 h2;subst h2;exact qz0
 split at h
 ·injection h with h;injection h with h1 h2;subst h2;exact qz1
 split at h
 ·injection h with h;injection h with h1 h2;subst h2;exact qz2
 ·cases h
theorem qs2 {p:Ps} {l:List Tok} {e:Int} (h:lineP p l=.error e):e≠0:=by
 cases l with
 | nil=>simp only[lineP] at h;cases h
 | cons t r =>
  simp only[lineP] at h
  split at h
  ·split at h
   ·cases h
   ·split at h
    ·rename_i q0 hq;exact qnp hq _ _ _ h
    ·injection h with h;rw[← h];decide
  ·split at h
   ·injection h with h;rw[← h];decide
   ·rename_i q0 hq
    split at h
    ·cases h
    ·exact qnp hq _ _ _ h
theorem qs3 {p:Ps} {s:List UInt8} {e:Int} (h:readP p s=.error e):e≠0:=by
 unfold readP at h
 split at h
 ·injection h with h;rw[← h];decide
 ·split at h
  ·injection h with h;rw[← h];decide
  ·exact qs2 h
theorem qg3:∀{l:List (List UInt8)} {p:Ps} {x:Int×Int},readLs p l=.error x→x.2≠0
 | [],p,x,h=>by simp only[readLs] at h;cases h
 | s::r,p,x,h=>by
  simp only[readLs] at h
  split at h
  ·exact qg3 h
  ·rename_i he
   injection h with h;rw[← h];exact qs3 he
theorem qs4 {t:List UInt8} {n e:Int} (h:parseP t=.error (n,e)):e≠0:=by
 unfold parseP at h
 split at h
 ·injection h with h;injection h with _ h;rw[← h];decide
 ·split at h
  ·rename_i x hx
   injection h with h;subst h;exact qg3 hx
  ·split at h
   ·rename_i x hx
    injection h with h;subst h
    unfold endP at hx
    split at hx
    ·injection hx with hx;injection hx with _ hx;rw[← hx];decide
    ·split at hx
     ·injection hx with hx;injection hx with _ hx;rw[← hx];decide
     ·split at hx
      ·injection hx with hx;injection hx with _ hx;rw[← hx];decide
      ·cases hx
   ·cases h
end Go.Proofs.Tryz.Ai
end
