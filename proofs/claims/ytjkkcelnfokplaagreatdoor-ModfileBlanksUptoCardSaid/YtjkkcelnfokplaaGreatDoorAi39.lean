/- Part 39 of a proof: a Go function is evaluated on abstract values (texts D31 .. D37); no conditions beyond those of each theorem. -/
import Derived.Test.YtjkkcelnfokplaaGreatDoorAi35
import Derived.Test.YtjkkcelnfokplaaGreatDoorAi37
set_option linter.all false
set_option linter.unusedVariables false
set_option linter.unusedSimpArgs false
set_option linter.unnecessarySimpa false
section
namespace Go.Proofs.Tryz.Ai
open Go Go.AI Go.Proofs
set_option maxHeartbeats 4000000
set_option maxRecDepth 4000
set_option linter.unusedVariables false
def szF (f:Mf):Nat:=f.m.length+f.g.length+(f.rq.map fun x=>x.1.length+x.2.1.length).sum+(f.ex.map fun x=>x.1.length+x.2.length).sum+(f.rp.map fun x=>x.1.1.length+x.1.2.length+x.2.1.length+x.2.2.length).sum+(f.rt.map fun x=>x.1.length+x.2.length).sum
def KpS (R:Ps→List Tok→Except Int Ps):Prop:=∀p l q n,R p l=.ok q→(∀t∈l,t.2.length≤n)→szF q.f≤szF p.f+4*n
theorem qwk {a b:List Nat} (h:a.Perm b):a.sum=b.sum:=by
 induction h with
 | nil=>rfl
 | cons x _ ih=>simp only[List.sum_cons];omega
 | swap x y l=>simp only[List.sum_cons];omega
 | trans _ _ h1 h2=>omega
theorem flat_len:∀ls:List (List UInt8),(ls.flatMap rowT).length=(ls.map List.length).sum+2*ls.length
 | []=>rfl
 | s::r=>by
  have:=flat_len r
  simp only[List.flatMap_cons,List.length_append,this,rowT,List.map_cons,List.sum_cons,List.length_cons,List.length_nil];omega
end Go.Proofs.Tryz.Ai
end
section
namespace Go.Proofs.Tryz.Ai
open Go Go.AI Go.Proofs
set_option maxHeartbeats 4000000
set_option maxRecDepth 4000
set_option linter.unusedVariables false
def KpE (R:Ps→List Tok→Except Int Ps):Prop:=∀p l e,R p l=.error e→e≠0
end Go.Proofs.Tryz.Ai
end
section
namespace Go.Proofs.Tryz.Ai
open Go Go.AI Go.Proofs
set_option maxHeartbeats 8000000
set_option maxRecDepth 4000
set_option linter.unusedVariables false
theorem MfSm.B {f:Mf} (h:MfSm f):MfB f∧MfS f:=by
 obtain⟨h1,h2,h3,h4,h5,h6,h7,h8,h9,h10⟩:=h
 refine⟨⟨by omega,by omega,by omega,by omega,by omega,by omega,fun x hx=>?_,fun x hx=>?_,fun x hx=>?_,fun x hx=>?_⟩,⟨by omega,by omega,fun x hx=>?_,fun x hx=>?_,fun x hx=>?_,fun x hx=>?_⟩⟩
 ·have:=h7 x hx;omega
 ·have:=h8 x hx;exact⟨by omega,by omega⟩
 ·have:=h9 x hx;exact⟨⟨by omega,by omega⟩,⟨by omega,by omega⟩⟩
 ·have:=h10 x hx;exact⟨by omega,by omega⟩
 ·have:=h7 x hx;exact⟨by simp only;omega,by simp only;omega⟩
 ·have:=h8 x hx;exact⟨by omega,by omega⟩
 ·have:=h9 x hx;exact⟨⟨by omega,by omega⟩,⟨by omega,by omega⟩⟩
 ·have:=h10 x hx;exact⟨by omega,by omega⟩
theorem qg8 {f:Mf} (h:mfE f=0):MfSm f:=by
 obtain⟨h1,h2,_⟩:=qc8.1 h
 have hm:=(qbh h1).2
 have hg:f.g.length≤11:=by
  rcases h2.go with h|h
  ·rw[h];simp
  ·exact (qg7 h).2
 obtain⟨k1,k2,k3,k4⟩:=h2.most
 refine⟨by omega,by omega,by omega,by omega,by omega,by omega,fun x hx=>?_,fun x hx=>?_,fun x hx=>?_,fun x hx=>?_⟩
 ·obtain⟨_,a,_,b⟩:=qad (h2.rq x hx);omega
 ·obtain⟨_,a,_,b⟩:=qad (h2.ex x hx);omega
 ·obtain⟨a,b,c⟩:=qey.1 (h2.rp x hx)
  have a:=(qbh a).2
  obtain⟨_,c1,_,c2⟩:=qad c
  have:x.1.2.length≤60:=by
   rcases b with b|b
   ·rw[b];simp
   ·exact (qad b).2.2.2
  omega
 ·obtain⟨a,b⟩:=qez (h2.rt x hx)
  have:=(qca a).2
  have:=(qca b).2
  omega
theorem qc9 (a:Mf):alikeB a a=true:=qfg.2 rfl
theorem fmtP_no {f:Mf} (h:mfE f≠0):fmtP f=([],mfE f):=by unfold fmtP;rw[if_pos h]
theorem fmtP_long {f:Mf} (h:mfE f=0) (hl:65536<(fmtM (canonM f)).length):fmtP f=([],13):=by unfold fmtP;rw[if_neg (by simpa using h),if_pos hl]
theorem fmtP_ok {f:Mf} (h:mfE f=0) (hl:¬65536<(fmtM (canonM f)).length):fmtP f=(fmtM (canonM f),0):=by unfold fmtP;rw[if_neg (by simpa using h),if_neg hl]
theorem qpl {t:List UInt8} {f:Mf} (h:parseP t=.ok f):parseAV t=.tup [mfF f,.int .i64 0,.int .i64 0]:=by unfold parseAV;rw[h]
theorem fmt_cases {f:Mf}:(∃e,fmtP f=([],e)∧e≠0)∨∃s,fmtP f=(s,0)∧s=fmtM (canonM f)∧s.length≤65536∧mfE f=0:=by
 by_cases h:mfE f=0
 ·by_cases hl:65536<(fmtM (canonM f)).length
  ·exact .inl ⟨13,fmtP_long h hl,by decide⟩
  ·exact .inr ⟨_,fmtP_ok h hl,rfl,by omega,h⟩
 ·exact .inl ⟨_,fmtP_no h,h⟩
theorem mf0_B:MfB mf0:=⟨by simp[mf0],by simp[mf0],by simp[mf0],by simp[mf0],by simp[mf0],by simp[mf0],by simp[mf0],by simp[mf0],by simp[mf0],by simp[mf0]⟩
theorem qpm (σ:List (List AV)):ev 17 [.agg [.str [],.str [],.sl .sh [],.sl .sh [],.sl .sh [],.sl .sh []],.agg [.str [],.str [],.sl .nil [],.sl .nil [],.sl .nil [],.sl .nil []]] σ=some (.bool true,σ):=by
 have h1:=fun σ=>qs9 [] [] [] [] [] [] (by simp) (by simp) (by simp) (by simp) σ
 have h2:=fun σ=>qtb mf0 mf0 mf0_B σ
 rw[qc9] at h2
 simp only[mfFx,mf0,List.map_nil] at h1 h2
 refine qf rfl Tryz.func17 rfl (by simp[Tryz.ntmps17]) (by kernel_rfl) (by kernel_rfl) ?_
 simp (maxSteps:=4000000) [-qb]
 refine qg [] _ (k:=?_)
 repeat (first|refine qd _ (hs:=by simp (maxSteps:=4000000) [h1,h2];exact rfl) (k:=?_)|refine qe _ (k:=?_))
 refine qc ?_
 simp (maxSteps:=4000000) [Tryz.results17]
end Go.Proofs.Tryz.Ai
end
section
namespace Go.Proofs.Tryz.Ai
open Go Go.AI Go.Proofs
set_option maxHeartbeats 4000000
set_option maxRecDepth 4000
set_option linter.unusedVariables false
def sprC (c:UInt8):List UInt8:=if c=32 then [32,9,32] else [c]
def sprS (s:List UInt8):List UInt8:=s.flatMap sprC
def cmtT:List UInt8:=[47,47,32,97,32,99,111,109,109,101,110,116,32,40,32,91,32,1]
def sprT (s:List UInt8):List UInt8:=9::32::sprS s++[10,32,9,10]++cmtT++[10]
theorem qm0 {s:List UInt8} (h:(32:UInt8)∉s):sprS s=s:=by
 unfold sprS
 induction s with
 | nil=>rfl
 | cons c r ih =>
  simp only[List.mem_cons,not_or] at h
  rw[List.flatMap_cons,ih h.2,sprC,if_neg (fun e=>h.1 e.symm)];rfl
theorem qaq (a b:List UInt8):sprS (a++32::b)=sprS a++32::9::32::sprS b:=by
 unfold sprS
 rw[List.flatMap_append,List.flatMap_cons,sprC,if_pos rfl];rfl
theorem qwl (a b:List UInt8):sprS (a++b)=sprS a++sprS b:=by unfold sprS;rw[List.flatMap_append]
theorem Wrd.sp {s:List UInt8} (h:Wrd s):(32:UInt8)∉s:=fun hm=>by have:=h.wd 32 hm;revert this;decide
theorem Wrd.spr {s:List UInt8} (h:Wrd s):sprS s=s:=qm0 h.sp
theorem q0f {s:List UInt8} (h:(10:UInt8)∉s):(10:UInt8)∉sprS s:=by
 unfold sprS
 intro hm
 obtain⟨c,h1,h2⟩:=List.mem_flatMap.1 hm
 unfold sprC at h2
 split at h2
 ·revert h2;decide
 ·rw[List.mem_singleton] at h2;exact h (by rw[h2];exact h1)
theorem qg9 {s:List UInt8} (h:(10:UInt8)∉s) (t:List UInt8):lnT (sprT s++t)=[9::32::sprS s,[32,9],cmtT]++lnT t:=by
 have e:sprT s++t=(9::32::sprS s)++10::([32,9]++10::(cmtT++10::t)):=by simp[sprT]
 have h1:(10:UInt8)∉9::32::sprS s:=by
  simp only[List.mem_cons,not_or];exact⟨by decide,by decide,q0f h⟩
 rw[e,qfd h1,qfd (by decide),qfd (by decide)];rfl
theorem tok_two:tokB [32,9]=some []:=by rw[tok_bl,tok_tab,tokB_nil]
theorem qtc (p:Ps):readP p [32,9]=.ok {p with line:=p.line+1,ind:=false}:=by rw[qbl (l:=[]) (by simp) rfl tok_two];rfl
theorem qtd (p:Ps):∃i,readP p cmtT=.ok {p with line:=p.line+1,ind:=i}:=by
 have hc:=qmd cmtT
 have h0:(Lib.cut cmtT [47,47]).1=[]:=by
  have:=hc.no 0 rfl rfl
  exact List.eq_nil_of_length_eq_zero (by omega)
 refine⟨trP (Lib.cut cmtT [47,47]).2.1,?_⟩
 unfold readP
 rw[if_neg (by decide),h0,tokB_nil]
 rfl
def Nx3 (p:Ps) (s:List UInt8) (f:Mf):Prop:=∃q,readLs p [9::32::sprS s,[32,9],cmtT]=.ok q∧q.f=f∧q.blk=p.blk∧q.md=p.md
theorem qin {p q:Ps} {s:List UInt8} (h:readP p (9::32::sprS s)=.ok q):∃r,readLs p [9::32::sprS s,[32,9],cmtT]=.ok r∧r.f=q.f∧r.blk=q.blk∧r.md=q.md:=by
 obtain⟨i,hi⟩:=qtd {q with line:=q.line+1,ind:=false}
 exact⟨{q with line:=q.line+1+1,ind:=i},by simp only[readLs,h,qtc,hi],rfl,rfl,rfl⟩
theorem qjz {a:List UInt8} (h:noC a=true):noC (32::a)=true:=qbj (a:=[]) rfl h (by decide)
theorem qli {a:List UInt8} (h:noC a=true):noC (9::a)=true:=qbj (a:=[]) rfl h (by decide)
theorem qhx {a b:List UInt8} (ha:noC a=true) (hb:noC b=true):noC (a++32::9::32::b)=true:=qbj ha (qli (qjz hb)) (by decide)
theorem tok_w {w r:List UInt8} (h:Wrd w):tokB (w++32::9::32::r)=(tokB r).map ((119,w)::·):=by
 rw[tok_word h (hd_no (by decide)),tok_bl,tok_tab,tok_bl]
theorem tok_92 (r:List UInt8):tokB (9::32::r)=tokB r:=by rw[tok_tab,tok_bl]
theorem qlj:Wrd rtWd:=qpk (by decide)
theorem qfo:Wrd rpWd:=qpk (by decide)
theorem qn0:Wrd rqWd:=qpk (by decide)
theorem qxq:Wrd exWd:=qpk (by decide)
theorem qlk:Wrd goW:=qpk (by decide)
theorem qll:Wrd mdW:=qpk (by decide)
def rtS (x:Rt):List UInt8:=rtWd++32::91::(x.1++44::(x.2++[93]))
theorem q2x {p:Ps} {x:Rt} (hb:p.blk=[]) (hc:rtE x=0) (hn:p.f.rt.length<200) (ha:∀y∈p.f.rt,y≠x):Nx3 p (rtS x) {p.f with rt:=p.f.rt++[x]}:=by
 obtain⟨s,v⟩:=x
 have hc0:=hc
 obtain⟨h1,h2⟩:=qez hc
 simp only at h1 h2
 obtain⟨a1,a2⟩:=qca h1
 obtain⟨b1,b2⟩:=qca h2
 obtain⟨g,hg⟩:=q0d
 have ha':¬p.f.rt.any ((s,v)==·)=true:=fun e=>by
  obtain⟨y,hy,hq⟩:=List.any_eq_true.1 e
  exact ha y hy (by simpa using (beq_iff_eq.1 hq).symm)
 have hR:∀k i,rtP {p with line:=k,ind:=i} [(91,[]),(119,s),(44,[]),(119,v),(93,[])]=.ok {p with line:=k,ind:=i,f:={p.f with rt:=p.f.rt++[(s,v)]}}:=by
  intro k i
  have:rtW [(91,[]),(119,s),(44,[]),(119,v),(93,[])]=some (s,v):=rfl
  unfold rtP
  rw[this]
  simp only
  rw[if_neg (by omega),qd6 (fst_ok hc0 ha')]
 have e:sprS (rtS (s,v))=rtWd++32::9::32::91::(s++44::(v++93::[])):=by
  have e1:(32:UInt8)∉91::(s++44::(v++[93])):=by simp[a1.sp,b1.sp]
  rw[rtS,qaq,qlj.spr,qm0 e1]
 have hno:noC (91::(s++44::(v++93::[])))=true:=qbj (a:=[]) rfl (qbj a1.sl (qbj b1.sl rfl (by decide)) (by decide)) (by decide)
 unfold Nx3
 have hr:readP p (9::32::sprS (rtS (s,v)))=.ok {p with line:=p.line+1,ind:=false,f:={p.f with rt:=p.f.rt++[(s,v)]}}:=by
  rw[e,qbl (l:=[(119,rtWd),(91,[]),(119,s),(44,[]),(119,v),(93,[])]) (by simp[rtWd];omega) (qli (qjz (qhx qlj.sl hno)))
   (by rw[tok_92,tok_w qlj,tok_mk (by decide),tok_word a1 (hd_no (by decide)),tok_mk (by decide),tok_word b1 (hd_no (by decide)),tok_mk (by decide),tokB_nil];rfl),qcu (by exact hb) hg (by rfl),hR]
 obtain⟨r,k1,k2,k3,k4⟩:=qin hr
 exact⟨r,k1,k2,k3,k4⟩
def rpS (x:Rp):List UInt8:=rpWd++32::(modT x.1++32::61::62::32::(x.2.1++32::x.2.2))
theorem q2y {p:Ps} {x:Rp} (hb:p.blk=[]) (hc:rpE x=0) (hn:p.f.rp.length<200) (ha:∀y∈p.f.rp,y.1≠x.1):Nx3 p (rpS x) {p.f with rp:=p.f.rp++[x]}:=by
 obtain⟨⟨s,v⟩,c,d⟩:=x
 have hc0:=hc
 obtain⟨h1,h2,h3⟩:=qey.1 hc
 simp only at h1 h2 h3 ha
 obtain⟨a1,a2⟩:=qbh h1
 obtain⟨b1,b2,b3,b4⟩:=qad h3
 obtain⟨g,hg⟩:=q0c
 have ha':¬p.f.rp.any (fun x=>isM (s,v) x.1)=true:=fun e=>by
  obtain⟨y,hy,hq⟩:=List.any_eq_true.1 e
  exact ha y hy (qmz.1 hq)
 have hR:∀k i l,rpW l=some ((s,v),c,d)→rpP {p with line:=k,ind:=i} l=.ok {p with line:=k,ind:=i,f:={p.f with rp:=p.f.rp++[((s,v),c,d)]}}:=by
  intro k i l hl
  unfold rpP
  rw[hl]
  simp only
  rw[if_neg (by omega),qd6 (fst_ok hc0 ha')]
 have eT:sprS (61::62::32::(c++32::d))=61::62::32::9::32::(c++32::9::32::d):=by
  have:=qaq [61,62] (c++32::d)
  rw[show (61::62::32::(c++32::d))=[61,62]++32::(c++32::d) from rfl,this,qaq,b1.spr,b3.spr];rfl
 have hno2:noC (61::62::32::9::32::(c++32::9::32::d))=true:=qbj (a:=[]) rfl (qbj (a:=[]) rfl (qjz (qli (qjz (qhx b1.sl b3.sl)))) (by decide)) (by decide)
 have ht2:tokB (61::62::32::9::32::(c++32::9::32::d))=some [(62,[]),(119,c),(119,d)]:=by
  rw[tok_ar,tok_tab,tok_bl,tok_w b1,tok_end b3];rfl
 unfold Nx3
 by_cases hv:v=[]
 ·subst hv
  have e:sprS (rpS ((s,[]),c,d))=rpWd++32::9::32::(s++32::9::32::61::62::32::9::32::(c++32::9::32::d)):=by
   have:modT (s,[])=s:=rfl
   rw[rpS,qaq,qfo.spr]
   simp only[this]
   rw[qaq,a1.spr,eT]
  have hr:readP p (9::32::sprS (rpS ((s,[]),c,d)))=.ok {p with line:=p.line+1,ind:=false,f:={p.f with rp:=p.f.rp++[((s,[]),c,d)]}}:=by
   rw[e,qbl (l:=[(119,rpWd),(119,s),(62,[]),(119,c),(119,d)]) (by simp[rpWd];omega) (qli (qjz (qhx qfo.sl (qhx a1.sl hno2))))
    (by rw[tok_92,tok_w qfo,tok_w a1,ht2];rfl),qcu (by exact hb) hg (by rfl),hR _ _ _ rfl]
  obtain⟨r,k1,k2,k3,k4⟩:=qin hr
  exact⟨r,k1,k2,k3,k4⟩
 ·have h2:checkB s v=0:=h2.resolve_left hv
  obtain⟨_,_,e3,e4⟩:=qad h2
  have e:sprS (rpS ((s,v),c,d))=rpWd++32::9::32::(s++32::9::32::(v++32::9::32::61::62::32::9::32::(c++32::9::32::d))):=by
   have:modT (s,v)=s++32::v:=by unfold modT;rw[if_neg hv];simp
   rw[rpS,qaq,qfo.spr]
   simp only[this]
   rw[List.append_assoc,List.cons_append,qaq,a1.spr,qaq,e3.spr,eT]
  have hr:readP p (9::32::sprS (rpS ((s,v),c,d)))=.ok {p with line:=p.line+1,ind:=false,f:={p.f with rp:=p.f.rp++[((s,v),c,d)]}}:=by
   rw[e,qbl (l:=[(119,rpWd),(119,s),(119,v),(62,[]),(119,c),(119,d)]) (by simp[rpWd];omega) (qli (qjz (qhx qfo.sl (qhx a1.sl (qhx e3.sl hno2)))))
    (by rw[tok_92,tok_w qfo,tok_w a1,tok_w e3,ht2];rfl),qcu (by exact hb) hg (by rfl),hR _ _ _ rfl]
  obtain⟨r,k1,k2,k3,k4⟩:=qin hr
  exact⟨r,k1,k2,k3,k4⟩
theorem q2z {p:Ps} {x:List UInt8×List UInt8} (hb:p.blk=[]) (hc:checkB x.1 x.2=0) (hn:p.f.ex.length<200) (ha:∀y∈p.f.ex,y≠x) :
  ∃q,readLs p [exWd++[40],9::32::sprS (x.1++32::x.2),[32,9],cmtT,[41]]=.ok q∧q.f={p.f with ex:=p.f.ex++[x]}∧q.blk=[]∧q.md=p.md:=by
 obtain⟨s,v⟩:=x
 simp only at hc
 obtain⟨h1,h2,h3,h4⟩:=qad hc
 obtain⟨g,hg⟩:=q0b
 have ha':¬p.f.ex.any ((s,v)==·)=true:=fun e=>by
  obtain⟨y,hy,hq⟩:=List.any_eq_true.1 e
  exact ha y hy (by simpa using (beq_iff_eq.1 hq).symm)
 have e1:readP p (exWd++[40])=.ok {p with line:=p.line+1,ind:=false,blk:=exWd}:=by
  rw[qbl (l:=[(119,exWd),(40,[])]) (by simp[exWd]) (qbj qxq.sl rfl (by decide)) (by rw[tok_word qxq (hd_no (by decide)),tok_mk (by decide),tokB_nil];rfl)]
  simp only[lineP]
  rw[if_neg (by rw[hb];simp),hg]
  simp only
  rw[if_pos ⟨by rfl,by decide,by decide⟩]
 obtain⟨p1,hp1⟩:∃p1:Ps,{p with line:=p.line+1,ind:=false,blk:=exWd}=p1:=⟨_,rfl⟩
 rw[hp1] at e1
 have hb1:p1.blk=exWd:=by rw[← hp1]
 have hf1:p1.f=p.f:=by rw[← hp1]
 have hm1:p1.md=p.md:=by rw[← hp1]
 have hR:∀k i,exP {p1 with line:=k,ind:=i} [(119,s),(119,v)]=.ok {p1 with line:=k,ind:=i,f:={p1.f with ex:=p1.f.ex++[(s,v)]}}:=by
  intro k i
  unfold exP
  have:wordsB [(119,s),(119,v)] [119,119]=some [s,v]:=rfl
  rw[this]
  simp only
  rw[if_neg (by rw[hf1];omega),qd6 (fst_ok (by omega) (by rw[hf1];exact ha'))]
 have e:sprS (s++32::v)=s++32::9::32::v:=by rw[qaq,h1.spr,h3.spr]
 have e2:readP p1 (9::32::sprS (s++32::v))=.ok {p1 with line:=p1.line+1,ind:=false,f:={p1.f with ex:=p1.f.ex++[(s,v)]}}:=by
  rw[e,qbl (l:=[(119,s),(119,v)]) (by simp;omega) (qli (qjz (qhx h1.sl h3.sl))) (by rw[tok_92,tok_w h1,tok_end h3];rfl),qs7 (w:=exWd) (by exact hb1) (by decide) hg (by rfl),hR]
 obtain⟨r,k1,k2,k3,k4⟩:=qin e2
 have e3:=qs8 (p:=r) (by rw[k3];simp only;rw[hb1];decide)
 refine⟨{r with line:=r.line+1,ind:=false,blk:=[]},?_,by simp only;rw[k2,hf1],rfl,by simp only;rw[k4,hm1]⟩
 have hL:readLs p [exWd++[40],9::32::sprS (s++32::v),[32,9],cmtT,[41]]=readLs p1 ([9::32::sprS (s++32::v),[32,9],cmtT]++[[41]]):=by simp only[readLs,e1,List.cons_append,List.nil_append]
 rw[hL,qba k1]
 simp only[readLs,e3]
def rqS (x:Rq):List UInt8:=rqWd++32::(x.1++32::x.2.1)++if x.2.2 then [32,47,47,32,32,105,110,100,105,114,101,99,116] else []
theorem q20 {p:Ps} {x:Rq} (hb:p.blk=[]) (hc:checkB x.1 x.2.1=0) (hn:p.f.rq.length<200) (ha:∀y∈p.f.rq,y.1≠x.1):Nxt p (rqS x) {p.f with rq:=p.f.rq++[x]}:=by
 obtain⟨s,v,i⟩:=x
 simp only at hc ha
 obtain⟨h1,h2,h3,h4⟩:=qad hc
 obtain⟨g,hg⟩:=q0a
 have ha':¬p.f.rq.any (isQ s)=true:=fun e=>by
  obtain⟨y,hy,hq⟩:=List.any_eq_true.1 e
  exact ha y hy (by simpa[isQ] using hq)
 have hR:∀k i,rqP {p with line:=k,ind:=i} [(119,s),(119,v)]=.ok {p with line:=k,ind:=i,f:={p.f with rq:=p.f.rq++[(s,v,i)]}}:=by
  intro k i
  unfold rqP
  have:wordsB [(119,s),(119,v)] [119,119]=some [s,v]:=rfl
  rw[this]
  simp only
  rw[if_neg (by omega),qd6 (fst_ok (by omega) ha')]
 have hno:noC (rqWd++32::(s++32::v))=true:=qbj qn0.sl (qbj h1.sl h3.sl (by decide)) (by decide)
 have hL:∀k i,lineP {p with line:=k,ind:=i} [(119,rqWd),(119,s),(119,v)]=.ok {p with line:=k,ind:=i,f:={p.f with rq:=p.f.rq++[(s,v,i)]}}:=fun k i=>by rw[qcu (by exact hb) hg (by rfl),hR]
 unfold Nxt
 cases i with
 | false =>
  have e:rqS (s,v,false)=rqWd++32::(s++32::v):=by simp[rqS]
  rw[e,qbl (l:=[(119,rqWd),(119,s),(119,v)]) (by simp[rqWd];omega) hno (by rw[tok_word qn0 (hd_no (by decide)),tok_bl,tok_word h1 (hd_no (by decide)),tok_bl,tok_end h3];rfl),hL]
  exact⟨_,rfl,rfl,rfl,rfl⟩
 | true =>
  have e:rqS (s,v,true)=(rqWd++32::(s++32::v))++32::47::47::[32,32,105,110,100,105,114,101,99,116]:=by simp[rqS]
  obtain⟨k1,k2⟩:=qz5 (b:=[32,32,105,110,100,105,114,101,99,116]) (qbj hno rfl (by decide):noC ((rqWd++32::(s++32::v))++32::[])=true)
  have hi:trP [32,32,105,110,100,105,114,101,99,116]=true:=by decide
  have ht:tokB ((rqWd++32::(s++32::v))++[32])=some [(119,rqWd),(119,s),(119,v)]:=by
   rw[List.append_assoc,List.cons_append,List.append_assoc,List.cons_append,tok_word qn0 (hd_no (by decide)),tok_bl,tok_word h1 (hd_no (by decide)),tok_bl,tok_word h3 (hd_no (by decide)),tok_bl,tokB_nil];rfl
  unfold readP
  rw[e,if_neg (by simp[rqWd];omega),k1,ht,k2,hi]
  simp only
  rw[hL]
  exact⟨_,rfl,rfl,rfl,rfl⟩
end Go.Proofs.Tryz.Ai
end
section
namespace Go.Proofs.Tryz.Ai
open Go Go.AI Go.Proofs
set_option maxHeartbeats 4000000
set_option maxRecDepth 4000
set_option linter.unusedVariables false
theorem qio {α:Type} {c:α→α→Int} (h:TP c):∀{l w:List α},w.Perm l→Srt c w→(l.Pairwise fun a b=>c a b<0)→w=l
 | [],w,hp,_,_=>hp.eq_nil
 | a::l,[],hp,_,_=>by have:=hp.length_eq;simp at this
 | a::l,b::w,hp,hs,hl=>by
  obtain⟨h1,h2⟩:=List.pairwise_cons.1 hl
  obtain⟨h3,h4⟩:=List.pairwise_cons.1 (show (b::w).Pairwise _ from hs)
  by_cases e:b=a
  ·subst e
   rw[qio h (List.Perm.cons_inv hp) h4 h2]
  ·exfalso
   have hb:b∈l:=by
    rcases List.mem_cons.1 (hp.mem_iff.1 (List.mem_cons_self ..)) with h|h
    ·exact absurd h e
    ·exact h
   have ha:a∈w:=by
    rcases List.mem_cons.1 (hp.mem_iff.2 (List.mem_cons_self ..)) with h|h
    ·exact absurd h.symm e
    ·exact h
   have k1:=h1 b hb
   have k2:=h3 a ha
   have k3:=h.flip a b
   omega
theorem qcb {α:Type} {c:α→α→Int} (h:TP c) {l w:List α} (hp:w.Perm l) (hl:l.Pairwise fun a b=>c a b<0):isrt c w=l:=qio h ((qaj w).trans hp) (qb6 h w) hl
theorem qdq {α:Type} {c:α→α→Int} (h:TP c) {l:List α} (hs:isrt c l=l) {R:α→α→Prop} (hd:l.Pairwise R) (hR:∀a b,R a b→c a b≠0):l.Pairwise fun a b=>c a b<0:=by
 have h1:Srt c l:=by have:=qb6 h l;rw[hs] at this;exact this
 refine (List.Pairwise.and h1 hd).imp fun {a b} ⟨k1,k2⟩=>?_
 have:=hR a b k2
 omega
theorem qpn {c f:Mf} (hc:canonM c=c) (hk:LsOk c) (h1:f.m=c.m) (h2:f.g=c.g) (h3:f.rq.Perm c.rq) (h4:f.ex.Perm c.ex) (h5:f.rp.Perm c.rp) (h6:f.rt.Perm c.rt):canonM f=c:=by
 obtain⟨m,g,rq,ex,rp,rt⟩:=c
 obtain⟨fm,fg,frq,fex,frp,frt⟩:=f
 simp only at h1 h2 h3 h4 h5 h6
 simp only[canonM,Mf.mk.injEq] at hc
 obtain⟨_,_,c3,c4,c5,c6⟩:=hc
 simp only[canonM,h1,h2,Mf.mk.injEq,true_and]
 refine⟨qcb TP.rqC h3 (qdq TP.rqC c3 hk.rqd fun a b h e=>h (TO.bytes.eq _ _ e)),qcb TO.modC.tp h4 (qdq TO.modC.tp c4 hk.exd fun a b h e=>h (TO.modC.eq _ _ e)),qcb TP.rpC h5 (qdq TP.rpC c5 hk.rpd fun a b h e=>h (TO.modC.eq _ _ e)),qcb TO.rtC.tp h6 (qdq TO.rtC.tp c6 hk.rtd fun a b h e=>h (TO.rtC.eq _ _ e))⟩
def exS (x:List UInt8×List UInt8):List UInt8:=exWd++[40,10]++sprT (x.1++32::x.2)++[41,10]
def goS (g:List UInt8):List UInt8:=if g=[] then [] else sprT (goW++32::g)
def blnT (c:Mf):List UInt8:=(c.rt.reverse.flatMap fun x=>sprT (rtS x))++((c.rp.reverse.flatMap fun x=>sprT (rpS x))++((c.ex.reverse.flatMap exS)++((c.rq.reverse.flatMap fun x=>rqS x++[10])++(goS c.g++sprT (mdW++32::c.m)))))
theorem qe0 {α:Type} {f:α→List UInt8} {F:α→List (List UInt8)}:∀{L:List α},(∀x∈L,∀t,lnT (f x++t)=F x++lnT t)→∀t,lnT (L.flatMap f++t)=L.flatMap F++lnT t
 | [],_,t=>rfl
 | x::r,h,t=>by
  rw[List.flatMap_cons,List.append_assoc,h x (by simp),qe0 (fun y hy=>h y (by simp[hy])),List.flatMap_cons,List.append_assoc]
theorem flat_read {α:Type} {F:α→List (List UInt8)} {put:List α→Mf} {L:List α}
  (step:∀(p:Ps) (a:List α) (x:α) (b:List α),L=a++x::b→p.blk=[]→p.f=put a→∃q,readLs p (F x)=.ok q∧q.f=put (a++[x])∧q.blk=[]∧q.md=p.md) :
  ∀(b a:List α) (p:Ps),L=a++b→p.blk=[]→p.f=put a→∃q,readLs p (b.flatMap F)=.ok q∧q.f=put L∧q.blk=[]∧q.md=p.md
 | [],a,p,h,hb,hf=>⟨p,rfl,by rw[hf,h,List.append_nil],hb,rfl⟩
 | x::b,a,p,h,hb,hf=>by
  obtain⟨q,h1,h2,h3,h4⟩:=step p a x b h hb hf
  obtain⟨r,k1,k2,k3,k4⟩:=flat_read step b (a++[x]) q (by rw[h];simp) h3 h2
  exact⟨r,by rw[List.flatMap_cons,qba h1];exact k1,k2,k3,k4.trans h4⟩
def s3 (s:List UInt8):List (List UInt8):=[9::32::sprS s,[32,9],cmtT]
def blnL (c:Mf):List (List UInt8):=(c.rt.reverse.flatMap fun x=>s3 (rtS x))++((c.rp.reverse.flatMap fun x=>s3 (rpS x))++((c.ex.reverse.flatMap fun x=>[exWd++[40],9::32::sprS (x.1++32::x.2),[32,9],cmtT,[41]])++((c.rq.reverse.flatMap fun x=>[rqS x])++((if c.g=[] then [] else s3 (goW++32::c.g))++s3 (mdW++32::c.m)))))
theorem qte {a b:List UInt8} (h1:(10:UInt8)∉a) (h2:(10:UInt8)∉b):(10:UInt8)∉a++32::b:=by simp[h1,h2]
theorem q21 {x:Rt} (h:rtE x=0):(10:UInt8)∉rtS x:=by
 obtain⟨a,b⟩:=qez h
 have a1:=(qca a).1.nl
 have b1:=(qca b).1.nl
 have:=qlj.nl
 simp[rtS,a1,b1,this]
theorem q22 {x:Rp} (h:rpE x=0):(10:UInt8)∉rpS x:=by
 obtain⟨a,b,c⟩:=qey.1 h
 obtain⟨c1,c2⟩:=qf3 c
 have hm:(10:UInt8)∉modT x.1:=q2w (qbh a).1.nl (by
  rcases b with b|b
  ·rw[b];simp
  ·exact (qf3 b).2)
 have:=qfo.nl
 simp[rpS,hm,c1,c2,this]
theorem q23 {x:Rq} (h:checkB x.1 x.2.1=0):(10:UInt8)∉rqS x:=by
 obtain⟨a,b⟩:=qf3 h
 have:=qn0.nl
 unfold rqS
 split<;>simp[a,b,this]
theorem q0g {c:Mf} (h:mfE c=0):lnT (blnT c)=blnL c:=by
 obtain⟨h1,hk,_⟩:=qc8.1 h
 have e1:∀t,lnT ((c.rt.reverse.flatMap fun x=>sprT (rtS x))++t)=(c.rt.reverse.flatMap fun x=>s3 (rtS x))++lnT t :=
  qe0 fun x hx t=>qg9 (q21 (hk.rt x (List.mem_reverse.1 hx))) t
 have e2:∀t,lnT ((c.rp.reverse.flatMap fun x=>sprT (rpS x))++t)=(c.rp.reverse.flatMap fun x=>s3 (rpS x))++lnT t :=
  qe0 fun x hx t=>qg9 (q22 (hk.rp x (List.mem_reverse.1 hx))) t
 have e3:∀t,lnT ((c.ex.reverse.flatMap exS)++t)=(c.ex.reverse.flatMap fun x=>[exWd++[40],9::32::sprS (x.1++32::x.2),[32,9],cmtT,[41]])++lnT t :=
  qe0 fun x hx t=>by
   obtain⟨a,b⟩:=qf3 (hk.ex x (List.mem_reverse.1 hx))
   have e:exS x++t=(exWd++[40])++10::(sprT (x.1++32::x.2)++([41]++10::t)):=by simp[exS]
   rw[e,qfd (by decide),qg9 (qte a b),qfd (by decide)];rfl
 have e4:∀t,lnT ((c.rq.reverse.flatMap fun x=>rqS x++[10])++t)=(c.rq.reverse.flatMap fun x=>[rqS x])++lnT t :=
  qe0 fun x hx t=>by
   have e:rqS x++[10]++t=rqS x++10::t:=by simp
   rw[e,qfd (q23 (hk.rq x (List.mem_reverse.1 hx)))];rfl
 have e5:∀t,lnT (goS c.g++t)=(if c.g=[] then [] else s3 (goW++32::c.g))++lnT t:=by
  intro t
  unfold goS
  by_cases hg:c.g=[]
  ·rw[if_pos hg,if_pos hg];rfl
  ·rw[if_neg hg,if_neg hg,qg9 (qte qlk.nl (qg7 (hk.go.resolve_left hg)).1.nl)];rfl
 have e6:lnT (sprT (mdW++32::c.m))=s3 (mdW++32::c.m):=by
  have:=qg9 (qte qll.nl (qbh h1).1.nl) []
  rw[List.append_nil,qju,List.append_nil] at this;exact this
 unfold blnT blnL
 rw[e1,e2,e3,e4,e5,e6]
theorem qj0 {α:Type} {R:α→α→Prop} {l a b:List α} {x:α} (hR:∀x y,R x y→R y x) (h:l.Pairwise R) (e:l.reverse=a++x::b):∀y∈a,R y x:=by
 have h1:l.reverse.Pairwise R:=((List.reverse_perm l).pairwise_iff fun h=>hR _ _ h).2 h
 rw[e] at h1
 exact bef h1
theorem qj1 {α:Type} {l a b:List α} {x:α} (e:l.reverse=a++x::b):x∈l:=List.mem_reverse.1 (by rw[e];simp)
theorem qj2 {α:Type} {l a b:List α} {x:α} (e:l.reverse=a++x::b):a.length<l.length:=by
 have:=congrArg List.length e
 simp at this;omega
theorem qwm {c:Mf} (h:mfE c=0):∃q,readLs ps0 (blnL c)=.ok q∧q.f=⟨c.m,c.g,c.rq.reverse,c.ex.reverse,c.rp.reverse,c.rt.reverse⟩∧q.blk=[]∧q.md=true:=by
 obtain⟨h1,hk,h3⟩:=qc8.1 h
 obtain⟨wm,lm⟩:=qbh h1
 obtain⟨m,g,rq,ex,rp,rt⟩:=c
 simp only at h1 h3 wm lm
 obtain⟨k1,k2,k3,k4,k5,k6,k7,k8,k9,k10⟩:=hk
 simp only at k1 k2 k3 k4 k5 k6 k7 k8 k9 k10
 obtain⟨q1,a1,a2,a3,a4⟩:=flat_read (F:=fun x=>s3 (rtS x)) (put:=fun l=>⟨[],[],[],[],[],l⟩) (L:=rt.reverse)
  (fun p a x b e hb hf=>by
   obtain⟨q,b1,b2,b3,b4⟩:=q2x (p:=p) (x:=x) hb (k9 x (qj1 e)) (by rw[hf];have:=qj2 e;simp only;omega) (by rw[hf];exact qj0 (fun _ _ h=>Ne.symm h) k10 e)
   exact⟨q,b1,by rw[b2,hf],by rw[b3,hb],b4⟩) rt.reverse [] ps0 rfl rfl rfl
 obtain⟨q2,c1,c2,c3,c4⟩:=flat_read (F:=fun x=>s3 (rpS x)) (put:=fun l=>⟨[],[],[],[],l,rt.reverse⟩) (L:=rp.reverse)
  (fun p a x b e hb hf=>by
   obtain⟨q,b1,b2,b3,b4⟩:=q2y (p:=p) (x:=x) hb (k7 x (qj1 e)) (by rw[hf];have:=qj2 e;simp only;omega) (by rw[hf];exact qj0 (R:=fun y x:Rp=>y.1≠x.1) (fun _ _ h=>Ne.symm h) k8 e)
   exact⟨q,b1,by rw[b2,hf],by rw[b3,hb],b4⟩) rp.reverse [] q1 rfl a3 a2
 obtain⟨q3,d1,d2,d3,d4⟩:=flat_read (F:=fun x=>[exWd++[40],9::32::sprS (x.1++32::x.2),[32,9],cmtT,[41]]) (put:=fun l=>⟨[],[],[],l,rp.reverse,rt.reverse⟩) (L:=ex.reverse)
  (fun p a x b e hb hf=>by
   obtain⟨q,b1,b2,b3,b4⟩:=q2z (p:=p) (x:=x) hb (k5 x (qj1 e)) (by rw[hf];have:=qj2 e;simp only;omega) (by rw[hf];exact qj0 (fun _ _ h=>Ne.symm h) k6 e)
   exact⟨q,b1,by rw[b2,hf],b3,b4⟩) ex.reverse [] q2 rfl c3 c2
 obtain⟨q4,e1,e2,e3,e4⟩:=flat_read (F:=fun x=>[rqS x]) (put:=fun l=>⟨[],[],l,ex.reverse,rp.reverse,rt.reverse⟩) (L:=rq.reverse)
  (fun p a x b e hb hf=>by
   obtain⟨q,b1,b2,b3,b4⟩:=q20 (p:=p) (x:=x) hb (k3 x (qj1 e)) (by rw[hf];have:=qj2 e;simp only;omega) (by rw[hf];exact qj0 (R:=fun y x:Rq=>y.1≠x.1) (fun _ _ h=>Ne.symm h) k4 e)
   exact⟨q,by simp only[readLs,b1],by rw[b2,hf],by rw[b3,hb],b4⟩) rq.reverse [] q3 rfl d3 d2
 obtain⟨g1,hg1⟩:=qz8
 obtain⟨g2,hg2⟩:=qz9
 have s5:∃q,readLs q4 (if g=[] then [] else s3 (goW++32::g))=.ok q∧q.f=⟨[],g,rq.reverse,ex.reverse,rp.reverse,rt.reverse⟩∧q.blk=[]∧q.md=false:=by
  by_cases hg:g=[]
  ·subst hg;rw[if_pos rfl];exact⟨q4,rfl,e2,e3,by rw[e4,d4,c4,a4];rfl⟩
  ·rw[if_neg hg]
   have hn:=k1.resolve_left hg
   obtain⟨wg,lg⟩:=qg7 hn
   have hs:(minorB g).isSome=true:=by cases hx:minorB g with
    | none=>exact absurd hx hn
    | some _=>rfl
   have e:sprS (goW++32::g)=goW++32::9::32::g:=by rw[qaq,qlk.spr,wg.spr]
   have hr:readP q4 (9::32::sprS (goW++32::g))=.ok {q4 with line:=q4.line+1,ind:=false,f:={q4.f with g:=g}}:=by
    rw[e,qbl (l:=[(119,goW),(119,g)]) (by simp[goW];omega) (qli (qjz (qhx qlk.sl wg.sl))) (by rw[tok_92,tok_w qlk,tok_end wg];rfl),qcu (by exact e3) hg2 (by rfl)]
    unfold goP
    have:wordsB [(119,g)] [119]=some [g]:=rfl
    rw[this]
    simp only
    rw[qd6 (fst2'.2 ⟨by rw[if_pos hs],by rw[e2];rfl⟩)]
   obtain⟨r,k1,k2,k3,k4⟩:=qin hr
   exact⟨r,k1,by rw[k2];simp only[e2],by rw[k3];exact e3,by rw[k4];simp only;rw[e4,d4,c4,a4];rfl⟩
 obtain⟨q5,f1,f2,f3,f4⟩:=s5
 have e:sprS (mdW++32::m)=mdW++32::9::32::m:=by rw[qaq,qll.spr,wm.spr]
 have hr:readP q5 (9::32::sprS (mdW++32::m))=.ok {q5 with line:=q5.line+1,ind:=false,md:=true,f:={q5.f with m:=m}}:=by
  rw[e,qbl (l:=[(119,mdW),(119,m)]) (by simp[mdW];omega) (qli (qjz (qhx qll.sl wm.sl))) (by rw[tok_92,tok_w qll,tok_end wm];rfl),qcu (by exact f3) hg1 (by rfl)]
  unfold mdP
  have:wordsB [(119,m)] [119]=some [m]:=rfl
  rw[this]
  simp only
  rw[qd6 (fst2'.2 ⟨by rw[f4];rfl,by omega⟩)]
 obtain⟨r,u1,u2,u3,u4⟩:=qin hr
 refine⟨r,?_,by rw[u2];simp only[f2],by rw[u3];exact f3,u4⟩
 unfold blnL
 simp only
 rw[qba a1,qba c1,qba d1,qba e1,qba f1]
 exact u1
theorem qe1 (s:List UInt8):(sprT s).length=(sprS s).length+25:=by simp[sprT,cmtT]
theorem flat_sum {α:Type} {f:α→List UInt8} {g:α→Nat} {k:Nat}:∀{L:List α},(∀x∈L,(f x).length≤k*g x)→(L.flatMap f).length≤k*(L.map g).sum
 | [],_=>by simp
 | x::r,h=>by
  have h1:=h x (by simp)
  have h2:=flat_sum (L:=r) fun y hy=>h y (by simp[hy])
  simp only[List.flatMap_cons,List.length_append,List.map_cons,List.sum_cons,Nat.mul_add];omega
theorem qn1 {α:Type} (w:List UInt8) (line:α→List UInt8) (L:List α):(L.map fun x=>(line x).length+2).sum≤(blkT w (L.map line)).length:=by
 unfold blkT
 split
 ·rename_i h
  have:L=[]:=by simpa using h
  subst this;simp
 ·simp only[List.length_append,flat_len,List.map_map,List.length_map]
  have:∀L:List α,(L.map fun x=>(line x).length+2).sum=(L.map (List.length∘line)).sum+2*L.length:=by
   intro L
   induction L with
   | nil=>rfl
   | cons x r ih=>simp only[List.map_cons,List.sum_cons,ih,Function.comp,List.length_cons];omega
  rw[this];omega
theorem q0h {α:Type} (g:α→Nat) (L:List α):(L.reverse.map g).sum=(L.map g).sum:=qwk ((List.reverse_perm L).map g)
theorem qxr {c:Mf} (h:mfE c=0):(blnT c).length≤14*(fmtM c).length:=by
 obtain⟨h1,hk,_⟩:=qc8.1 h
 have t1:(c.rt.reverse.flatMap fun x=>sprT (rtS x)).length≤14*(c.rt.reverse.map fun x=>(rtT x).length+2).sum:=flat_sum fun x hx=>by
  obtain⟨a,b⟩:=qez (hk.rt x (List.mem_reverse.1 hx))
  have a:=(qca a).1
  have b:=(qca b).1
  have e1:(32:UInt8)∉91::(x.1++44::(x.2++[93])):=by simp[a.sp,b.sp]
  have l1:=List.length_pos_iff.2 a.ne
  rw[qe1,rtS,qaq,qlj.spr,qm0 e1]
  unfold rtT
  split
  ·rename_i e;rw[← e];simp[rtWd];omega
  ·simp[rtWd];omega
 have t2:(c.rp.reverse.flatMap fun x=>sprT (rpS x)).length≤14*(c.rp.reverse.map fun x=>(rpT x).length+2).sum:=flat_sum fun x hx=>by
  have hx:=hk.rp x (List.mem_reverse.1 hx)
  obtain⟨a,b,d⟩:=qey.1 hx
  obtain⟨d1,_,d2,_⟩:=qad d
  have a:=(qbh a).1
  have e1:sprS (61::62::32::(x.2.1++32::x.2.2))=61::62::32::9::32::(x.2.1++32::9::32::x.2.2):=by
   rw[show (61::62::32::(x.2.1++32::x.2.2))=[61,62]++32::(x.2.1++32::x.2.2) from rfl,qaq,qaq,d1.spr,d2.spr];rfl
  have e2:(sprS (modT x.1)).length≤(modT x.1).length+2:=by
   unfold modT
   split
   ·rw[a.spr];omega
   ·rename_i hv
    have e3:=(qad (b.resolve_left hv)).2.2.1
    have:=qaq x.1.1 x.1.2
    rw[show x.1.1++[32]++x.1.2=x.1.1++32::x.1.2 by simp,this,a.spr,e3.spr];simp;omega
  have e3:(modT x.2).length=x.2.1.length+x.2.2.length+1:=by unfold modT;rw[if_neg d2.ne];simp;omega
  rw[qe1,rpS,qaq,qfo.spr,qaq,e1]
  simp only[rpT,rpWd,arT,List.length_append,List.length_cons,List.length_nil,e3]
  omega
 have t3:(c.ex.reverse.flatMap exS).length≤14*(c.ex.reverse.map fun x=>(modT x).length+2).sum:=flat_sum fun x hx=>by
  obtain⟨a,_,b,_⟩:=qad (hk.ex x (List.mem_reverse.1 hx))
  have e3:(modT x).length=x.1.length+x.2.length+1:=by unfold modT;rw[if_neg b.ne];simp;omega
  have l1:=List.length_pos_iff.2 a.ne
  have l2:=List.length_pos_iff.2 b.ne
  simp only[exS,List.length_append,qe1,qaq,a.spr,b.spr,e3,exWd,List.length_cons,List.length_nil]
  omega
 have t4:(c.rq.reverse.flatMap fun x=>rqS x++[10]).length≤14*(c.rq.reverse.map fun x=>(rqT x).length+2).sum:=flat_sum fun x hx=>by
  obtain⟨a,_,b,_⟩:=qad (hk.rq x (List.mem_reverse.1 hx))
  have e3:(modT (x.1,x.2.1)).length=x.1.length+x.2.1.length+1:=by unfold modT;rw[if_neg b.ne];simp;omega
  have l1:=List.length_pos_iff.2 a.ne
  have l2:=List.length_pos_iff.2 b.ne
  unfold rqS rqT
  split<;>simp[e3,rqWd,indT]<;>omega
 have t5:(goS c.g).length≤14*(goL c.g).length:=by
  unfold goS goL
  split
  ·simp
  ·rename_i hg
   have w:=(qg7 (hk.go.resolve_left hg)).1
   rw[qe1,qaq,qlk.spr,w.spr]
   simp only[goW,gT,List.length_append,List.length_cons,List.length_nil];omega
 have t6:(sprT (mdW++32::c.m)).length≤14*(moT.length+c.m.length+1):=by
  have w:=(qbh h1).1
  rw[qe1,qaq,qll.spr,w.spr]
  simp only[mdW,moT,List.length_append,List.length_cons,List.length_nil];omega
 have b1:=qn1 rtWd rtT c.rt
 have b2:=qn1 rpWd rpT c.rp
 have b3:=qn1 exWd modT c.ex
 have b4:=qn1 rqWd rqT c.rq
 rw[q0h] at t1 t2 t3 t4
 unfold blnT fmtM
 simp only[List.length_append,List.length_cons,List.length_nil]
 omega
theorem q24 {c:Mf} (h:mfE c=0) (hc:canonM c=c) (hl:(fmtM c).length≤4000):parseP (blnT c)=.ok c:=by
 have hb:=qxr h
 obtain⟨q,h1,h2,h3,h4⟩:=qwm h
 obtain⟨_,hk,h5⟩:=qc8.1 h
 have hend:endP q=.ok ():=by
  unfold endP
  rw[if_neg (by rw[h3];simp),if_neg (by rw[h4];simp),if_neg]
  rw[h2]
  intro e
  obtain⟨y,hy,hq⟩:=List.any_eq_true.1 e
  exact h5 y (List.mem_reverse.1 hy) (by simpa[isQ] using hq)
 have hcan:canonM q.f=c:=qpn hc hk (by rw[h2]) (by rw[h2]) (by rw[h2];exact List.reverse_perm _) (by rw[h2];exact List.reverse_perm _) (by rw[h2];exact List.reverse_perm _) (by rw[h2];exact List.reverse_perm _)
 unfold parseP
 rw[if_neg (by omega),q0g h,h1]
 simp only
 rw[hend]
 simp only
 rw[hcan]
end Go.Proofs.Tryz.Ai
end
section
namespace Go.Proofs.Tryz.Ai
open Go Go.AI Go.Proofs
set_option maxHeartbeats 8000000
set_option maxRecDepth 4000
set_option linter.unusedVariables false
theorem q0i (s:List UInt8):(sprS s).length≤3*s.length:=by
 unfold sprS
 induction s with
 | nil=>simp
 | cons c r ih =>
  have:(sprC c).length≤3:=by unfold sprC;split<;>simp
  simp only[List.flatMap_cons,List.length_append,List.length_cons];omega
theorem qtf (s:List UInt8) (hs:s.length≤2^20) (σ:List (List AV)):ev 16 [.str s] σ=some (.str (sprT s),σ):=by
 obtain⟨W,hW⟩:∃W,sprT s=W:=⟨_,rfl⟩
 rw[hW]
 refine qf rfl Tryz.func16 rfl (by simp[Tryz.ntmps16]) (by kernel_rfl) (by kernel_rfl) ?_
 simp (maxSteps:=4000000) [-Prod.exists,-Prod.forall]
 refine ql (I:=fun p:Nat×List UInt8=>⟨[(0,.str s),(3,.str p.2),(4,.int .i64 p.1)],[],σ⟩) (Pr:=fun p=>p.1≤s.length∧p.2=9::32::sprS (s.take p.1)) (μ:=fun p=>s.length-p.1) (a:=(0,[9,32])) (by simp) (by simp[sprS]) ?_
 rintro⟨i,t⟩ ⟨hi,ht⟩
 simp only at hi ht ⊢
 have w1:IntKind.i64.wrap ((i:Int)+1)=(i:Int)+1:=qh (by omega)
 have htl:t.length≤2^22:=by
  have h1:=q0i (s.take i)
  have h2:(s.take i).length≤s.length:=by simp;omega
  rw[ht];simp only[List.length_cons];omega
 by_cases hc:i<s.length
 ·obtain⟨c,hx⟩:∃c,s[i]? = some c:=⟨_,List.getElem?_eq_getElem hc⟩
  have hn:9::32::sprS (s.take (i+1))=t++sprC c:=by
   rw[List.take_add_one,hx,qwl,ht];simp[sprS]
  by_cases h32:c=32
  ·have b1:t.length+3≤most:=by unfold most;omega
   subst h32
   simp (maxSteps:=4000000) [-getElem?_pos,-Prod.exists,-Prod.forall,hc,hx,b1,w1]
   exact⟨(i+1,t++[32,9,32]),⟨by simp;omega,by rw[hn];rfl⟩,by simp;omega,by simp⟩
  ·have hd:(s.take (i+1)).drop i=[c]:=by
    rw[List.take_add_one,hx,List.drop_append_of_le_length (by simp;omega)]
    simp[List.drop_take]
   have b1:t.length+1≤most:=by unfold most;omega
   have b2:i≤i+1∧i+1≤s.length:=⟨by omega,by omega⟩
   have hs1:(i:Int)+1≤s.length:=by omega
   simp (maxSteps:=4000000) [-getElem?_pos,-Prod.exists,-Prod.forall,hc,hx,h32,b1,b2,hd,w1,hs1]
   exact⟨(i+1,t++[c]),⟨by simp;omega,by rw[hn,sprC,if_neg h32]⟩,by simp;omega,by simp⟩
 ·obtain rfl:i=s.length:=by omega
  rw[List.take_length] at ht
  have b1:t.length+23≤most:=by unfold most;omega
  have hfin:t++[10,32,9,10,47,47,32,97,32,99,111,109,109,101,110,116,32,40,32,91,32,1,10]=W:=by rw[← hW,ht];simp[sprT,cmtT]
  simp (maxSteps:=4000000) [hc,b1,hfin,Tryz.results16]
theorem qwn {α:Type} {L:List α} {j:Nat} {x:α} (h:L[j]? = some x):L.reverse.take (L.length-j)=L.reverse.take (L.length-(j+1))++[x]:=by
 have hj:=(List.getElem?_eq_some_iff.1 h).1
 have e:L.length-j=(L.length-(j+1))+1:=by omega
 rw[e,List.take_add_one,List.getElem?_reverse (by omega)]
 have e2:L.length-1-(L.length-(j+1))=j:=by omega
 rw[e2,h];rfl
theorem flat_take {α:Type} (F:α→List UInt8) (L:List α) (k:Nat):((L.take k).flatMap F).length≤(L.flatMap F).length:=by
 have:L.flatMap F=(L.take k).flatMap F++(L.drop k).flatMap F:=by rw[← List.flatMap_append,List.take_append_drop]
 rw[this,List.length_append];omega
def bwI {α:Type} (T:List UInt8) (L:List α) (F:α→List UInt8) (k:Nat) (t:List UInt8):Prop:=k≤L.length∧t=T++(L.reverse.take (L.length-k)).flatMap F
theorem qf4 {α:Type} (T:List UInt8) (L:List α) (F:α→List UInt8):bwI T L F L.length T:=⟨Nat.le_refl _,by simp⟩
theorem qfh {α:Type} {T:List UInt8} {L:List α} {F:α→List UInt8} {j:Nat} {t:List UInt8} {x:α} (h:bwI T L F (j+1) t) (hx:L[j]? = some x):bwI T L F j (t++F x):=by
 obtain⟨h1,h2⟩:=h
 refine⟨by omega,?_⟩
 rw[qwn hx,List.flatMap_append,h2];simp
theorem qn2 {α:Type} {T:List UInt8} {L:List α} {F:α→List UInt8} {t:List UInt8} (h:bwI T L F 0 t):t=T++L.reverse.flatMap F:=by
 rw[h.2]
 have:L.length-0=L.reverse.length:=by simp
 rw[this,List.take_length]
theorem qn3 {α:Type} {T:List UInt8} {L:List α} {F:α→List UInt8} {k:Nat} {t:List UInt8} (h:bwI T L F k t):t.length≤T.length+(L.reverse.flatMap F).length:=by
 rw[h.2,List.length_append]
 have:=flat_take F L.reverse (L.length-k)
 omega
theorem qdr {α:Type} {F:α→List UInt8} {L:List α} {x:α} (h:x∈L):(F x).length≤(L.reverse.flatMap F).length:=by
 have h:=List.mem_reverse.2 h
 obtain⟨a,b,e⟩:=List.append_of_mem h
 rw[e];simp;omega
theorem qtg (f:Mf) (hb:MfB f) (hS:MfS f) (σ:List (List AV)):ev1 4 [mfF f] σ=some (.bool true,σ):=by
 have hF:=first_eq
 have hN:=fun e σ=>lift (qr1 e σ)
 obtain⟨bf,hFw⟩:=qs5 f σ
 have hFw:=lift hFw
 have hP:∀t σ,ev1 9 [.str t] σ=some (parseAV t,σ):=fun t σ=>qjv t σ
 have hF0:∀σ,ev1 14 [mfF f] σ=some (.tup [.str (fmtP f).1,.int .i64 (fmtP f).2],σ):=fun σ=>lift (qlf f hb hS σ)
 have hC:∀σ,ev1 15 [mfF f] σ=some (mfF (canonM f),σ):=fun σ=>lift (qd5 f hb σ)
 have hA:∀a (h1:MfB a) σ,ev1 17 [mfF a,mfF a] σ=some (.bool true,σ):=fun a h1 σ=>by have:=lift (qjy a a h1 h1 σ);rwa [qc9] at this
 have hSp:∀s (hs:s.length≤2^20) σ,ev1 16 [.str s] σ=some (.str (sprT s),σ):=fun s hs σ=>lift (qtf s hs σ)
 have h1:(∃e,fmtP f=([],e)∧e≠0)∨∃s,fmtP f=(s,0)∧(s.length≤4000→mfE (canonM f)=0∧canonM (canonM f)=canonM f∧(blnT (canonM f)).length≤56000∧parseP (blnT (canonM f))=.ok (canonM f)):=by
  rcases fmt_cases (f:=f) with h|⟨s,k1,k2,k3,k4⟩
  ·exact .inl h
  ·refine .inr ⟨s,k1,fun hs=>?_⟩
   have hc:=qlh k4
   have hl:=qxr hc
   rw[k2] at hs
   exact⟨hc,qim f,by omega,q24 hc (qim f) hs⟩
 rw[mfFx] at hFw hF0 hC ⊢
 refine qf rfl Tryz.func4 rfl (by simp[Tryz.ntmps4]) (by kernel_rfl) (by kernel_rfl) ?_
 rcases h1 with ⟨e,k1,k2⟩|⟨s,k1,k2⟩
 ·rw[k1] at hF0
  simp only at hF0
  cases bf with
  | false=>simp (maxSteps:=4000000) [hF,hFw,hF0,hN,k2,Tryz.results4]
  | true=>simp (maxSteps:=4000000) [hF,hFw,hF0,hN,k2,Tryz.results4]
 rw[k1] at hF0
 simp only at hF0
 cases bf with
 | false=>simp (maxSteps:=4000000) [hF,hFw,hF0,hN,Tryz.results4]
 | true =>
 by_cases hl:4000<s.length
 ·simp (maxSteps:=4000000) [hF,hFw,hF0,hN,hl,Tryz.results4]
 obtain⟨q1,q2,q3,q4⟩:=k2 (by omega)
 have hAc:=hA _ (qg8 q1).B.1
 have hPc:∀σ,ev1 9 [.str (blnT (canonM f))] σ=some (.tup [mfF (canonM f),.int .i64 0,.int .i64 0],σ):=fun σ=>by rw[hP,qpl q4]
 obtain⟨m1,m2,m3⟩:=qc8.1 q1
 obtain⟨n1,n2,n3,n4⟩:=m2.most
 have sm:=qg8 q1
 clear hA hP q4 k2
 obtain⟨c,hcc⟩:∃c,canonM f=c:=⟨_,rfl⟩
 rw[hcc] at hC hAc hPc m1 m2 m3 n1 n2 n3 n4 sm q1 q2 q3
 obtain⟨cm,cg,crq,cex,crp,crt⟩:=c
 simp only at n1 n2 n3 n4
 rw[mfFx] at hC hAc hPc
 simp only at hC hAc hPc
 obtain⟨LQ,hLQ⟩:∃L,crq.map rqF=L:=⟨_,rfl⟩
 obtain⟨LM,hLM⟩:∃L,cex.map modA=L:=⟨_,rfl⟩
 obtain⟨LP,hLP⟩:∃L,crp.map rpF=L:=⟨_,rfl⟩
 obtain⟨LT,hLT⟩:∃L,crt.map rtF=L:=⟨_,rfl⟩
 have hmQ:LQ.length=crq.length:=by rw[← hLQ];simp
 have hmM:LM.length=cex.length:=by rw[← hLM];simp
 have hmP:LP.length=crp.length:=by rw[← hLP];simp
 have hmT:LT.length=crt.length:=by rw[← hLT];simp
 rw[hLQ,hLM,hLP,hLT] at hC hAc hPc
 have hall:=q3
 simp only[blnT,List.length_append] at hall
 have w0:IntKind.i64.wrap ((LT.length:Int)-1)=(LT.length:Int)-1:=qh (by omega)
 simp (maxSteps:=4000000) [-Prod.exists,-Prod.forall,-qb,hF,hFw,hF0,hN,hl,hC,w0]
 try simp only at hall
 have w02:IntKind.i64.wrap ((LP.length:Int)-1)=(LP.length:Int)-1:=qh (by omega)
 have w03:IntKind.i64.wrap ((LM.length:Int)-1)=(LM.length:Int)-1:=qh (by omega)
 have w04:IntKind.i64.wrap ((LQ.length:Int)-1)=(LQ.length:Int)-1:=qh (by omega)
 have lcm:=(qbh m1).2
 have lcg:cg.length≤11:=by
  rcases m2.go with h|h
  ·simp only at h;rw[h];simp
  ·exact (qg7 h).2
 try simp only at lcm
 refine ql (I:=fun p:Nat×List UInt8=>⟨[(7,.lp 7 0),(8,.str p.2),(9,.int .i64 ((p.1:Int)-1))],[(7,[.str cm,.str cg,.sl .sh LQ,.sl .sh LM,.sl .sh LP,.sl .sh LT])],σ⟩) (Pr:=fun p=>bwI [] crt (fun x=>sprT (rtS x)) p.1 p.2) (μ:=fun p=>p.1) (a:=(LT.length,[])) (by simp) (by rw[hmT];exact qf4 _ _ _) ?_
 rintro⟨k,t⟩ hI
 try simp only at hI
 try simp only at ⊢
 have htl:=qn3 hI
 try simp only[List.length_nil,Nat.zero_add] at htl
 have hk:=hI.1
 cases k with
 | succ j =>
  obtain⟨⟨x1,x2⟩,hx⟩:∃y,crt[j]? = some y:=⟨_,List.getElem?_eq_getElem (by omega)⟩
  have hxL:LT[j]? = some (.agg [.str x1,.str x2]):=by rw[← hLT,List.getElem?_map,hx];rfl
  have hjl:j<LT.length:=by omega
  obtain⟨hm1,hm2⟩:=qez (m2.rt _ (List.mem_of_getElem? hx))
  have hm1:=(qca hm1).2
  have hm2:=(qca hm2).2
  have hml:=qdr (F:=fun x=>sprT (rtS x)) (List.mem_of_getElem? hx)
  try simp only at hm1
  try simp only at hm2
  try simp only at hml
  have w1:IntKind.i64.wrap ((j:Int)-1)=(j:Int)-1:=qh (by omega)
  have bu1:9+x1.length≤most:=by unfold most;omega
  obtain⟨u1,hu1⟩:∃u,[114,101,116,114,97,99,116,32,91]++x1=u:=⟨_,rfl⟩
  have lu1:u1.length=9+x1.length:=by (rw[← hu1,List.length_append])<;>rfl
  have bu2:u1.length+1≤most:=by unfold most;omega
  obtain⟨u2,hu2⟩:∃u,u1++[44]=u:=⟨_,rfl⟩
  have lu2:u2.length=u1.length+1:=by (rw[← hu2,List.length_append])<;>rfl
  have bu3:u2.length+x2.length≤most:=by unfold most;omega
  obtain⟨u3,hu3⟩:∃u,u2++x2=u:=⟨_,rfl⟩
  have lu3:u3.length=u2.length+x2.length:=by (rw[← hu3,List.length_append])<;>rfl
  have bu4:u3.length+1≤most:=by unfold most;omega
  obtain⟨u4,hu4⟩:∃u,u3++[93]=u:=⟨_,rfl⟩
  have lu4:u4.length=u3.length+1:=by (rw[← hu4,List.length_append])<;>rfl
  have hu:u4=rtS (x1,x2):=by rw[← hu4,← hu3,← hu2,← hu1];simp[rtS,rtWd]
  have hsp:=hSp u4 (by omega)
  obtain⟨W,hW⟩:∃W,sprT u4=W:=⟨_,rfl⟩
  have hWl:W.length≤56000:=by rw[← hW,hu];omega
  rw[hW] at hsp
  have bv:t.length+W.length≤most:=by unfold most;omega
  obtain⟨v,hv⟩:∃u,t++W=u:=⟨_,rfl⟩
  have lv:v.length=t.length+W.length:=by (rw[← hv,List.length_append])<;>rfl
  simp (maxSteps:=4000000) [-getElem?_pos,-List.append_assoc,-List.cons_append,-List.nil_append,-Prod.exists,-Prod.forall,-qb]
  refine qg [] _ (k:=?_)
  repeat (first|refine qd _ (hs:=by simp (maxSteps:=4000000) [-getElem?_pos,-List.append_assoc,-List.cons_append,-List.nil_append,hjl,hxL,bu1,hu1,bu2,hu2,bu3,hu3,bu4,hu4,hsp,bv,hv];exact rfl) (k:=?_)|refine qe _ (k:=?_))
  refine qc ?_
  simp (maxSteps:=4000000) [-Prod.exists,-Prod.forall,w1]
  exact⟨(j,v),by rw[← hv,← hW,hu];exact qfh hI hx,by simp,by simp⟩
 | zero =>
  have hT1:=qn2 hI
  clear hI hk
  obtain⟨T1,rfl⟩:∃z,z=t:=⟨_,rfl⟩
  simp (maxSteps:=4000000) [-Prod.exists,-Prod.forall,w02]
  refine ql (I:=fun p:Nat×List UInt8=>⟨[(7,.lp 7 0),(8,.str p.2),(10,.int .i64 ((p.1:Int)-1))],[(7,[.str cm,.str cg,.sl .sh LQ,.sl .sh LM,.sl .sh LP,.sl .sh LT])],σ⟩) (Pr:=fun p=>bwI T1 crp (fun x=>sprT (rpS x)) p.1 p.2) (μ:=fun p=>p.1) (a:=(LP.length,T1)) (by simp) (by rw[hmP];exact qf4 _ _ _) ?_
  rintro⟨k,t⟩ hI
  try simp only at hI
  try simp only at ⊢
  have htl:=qn3 hI
  try simp only[List.length_nil,Nat.zero_add] at htl
  have hk:=hI.1
  cases k with
  | succ j =>
   obtain⟨⟨⟨x1,x2⟩,x3,x4⟩,hx⟩:∃y,crp[j]? = some y:=⟨_,List.getElem?_eq_getElem (by omega)⟩
   have hxL:LP[j]? = some (.agg [.str x1,.str x2,.str x3,.str x4]):=by rw[← hLP,List.getElem?_map,hx];rfl
   have hjl:j<LP.length:=by omega
   obtain⟨hm1,hm2,hm3⟩:=qey.1 (m2.rp _ (List.mem_of_getElem? hx))
   have hm1:=(qbh hm1).2
   obtain⟨_,hm4,_,hm5⟩:=qad hm3
   have hm6:x2.length≤60:=by
    rcases hm2 with h|h
    ·simp only at h;rw[h];simp
    ·exact (qad h).2.2.2
   have hml:=qdr (F:=fun x=>sprT (rpS x)) (List.mem_of_getElem? hx)
   try simp only at hm1
   try simp only at hm4
   try simp only at hm5
   try simp only at hml
   have w1:IntKind.i64.wrap ((j:Int)-1)=(j:Int)-1:=qh (by omega)
   by_cases hv0:x2=[]
   ·subst hv0
    have be1:8+x1.length≤most:=by unfold most;omega
    obtain⟨e1,he1⟩:∃u,[114,101,112,108,97,99,101,32]++x1=u:=⟨_,rfl⟩
    have le1:e1.length=8+x1.length:=by (rw[← he1,List.length_append])<;>rfl
    have be2:e1.length+4≤most:=by unfold most;omega
    obtain⟨e2,he2⟩:∃u,e1++[32,61,62,32]=u:=⟨_,rfl⟩
    have le2:e2.length=e1.length+4:=by (rw[← he2,List.length_append])<;>rfl
    have be3:e2.length+x3.length≤most:=by unfold most;omega
    obtain⟨e3,he3⟩:∃u,e2++x3=u:=⟨_,rfl⟩
    have le3:e3.length=e2.length+x3.length:=by (rw[← he3,List.length_append])<;>rfl
    have be4:e3.length+1≤most:=by unfold most;omega
    obtain⟨e4,he4⟩:∃u,e3++[32]=u:=⟨_,rfl⟩
    have le4:e4.length=e3.length+1:=by (rw[← he4,List.length_append])<;>rfl
    have be5:e4.length+x4.length≤most:=by unfold most;omega
    obtain⟨e5,he5⟩:∃u,e4++x4=u:=⟨_,rfl⟩
    have le5:e5.length=e4.length+x4.length:=by (rw[← he5,List.length_append])<;>rfl
    have hu:e5=rpS ((x1,[]),x3,x4):=by rw[← he5,← he4,← he3,← he2,← he1];simp[rpS,rpWd,modT]
    have hsp:=hSp e5 (by omega)
    obtain⟨W,hW⟩:∃W,sprT e5=W:=⟨_,rfl⟩
    have hWl:W.length≤56000:=by rw[← hW,hu];omega
    rw[hW] at hsp
    have bv:t.length+W.length≤most:=by unfold most;omega
    obtain⟨v,hv⟩:∃u,t++W=u:=⟨_,rfl⟩
    have lv:v.length=t.length+W.length:=by (rw[← hv,List.length_append])<;>rfl
    simp (maxSteps:=4000000) [-getElem?_pos,-List.append_assoc,-List.cons_append,-List.nil_append,-Prod.exists,-Prod.forall,hjl,hxL,be1,he1,be2,he2,be3,he3,be4,he4,be5,he5,hsp,bv,hv,w1]
    exact⟨(j,v),by rw[← hv,← hW,hu];exact qfh hI hx,by simp,by simp⟩
   ·have hv1:(x2==[])=false:=by simpa using hv0
    have ba1:x1.length+1≤most:=by unfold most;omega
    obtain⟨a1,ha1⟩:∃u,x1++[32]=u:=⟨_,rfl⟩
    have la1:a1.length=x1.length+1:=by (rw[← ha1,List.length_append])<;>rfl
    have ba2:a1.length+x2.length≤most:=by unfold most;omega
    obtain⟨a2,ha2⟩:∃u,a1++x2=u:=⟨_,rfl⟩
    have la2:a2.length=a1.length+x2.length:=by (rw[← ha2,List.length_append])<;>rfl
    have be1:8+a2.length≤most:=by unfold most;omega
    obtain⟨e1,he1⟩:∃u,[114,101,112,108,97,99,101,32]++a2=u:=⟨_,rfl⟩
    have le1:e1.length=8+a2.length:=by (rw[← he1,List.length_append])<;>rfl
    have be2:e1.length+4≤most:=by unfold most;omega
    obtain⟨e2,he2⟩:∃u,e1++[32,61,62,32]=u:=⟨_,rfl⟩
    have le2:e2.length=e1.length+4:=by (rw[← he2,List.length_append])<;>rfl
    have be3:e2.length+x3.length≤most:=by unfold most;omega
    obtain⟨e3,he3⟩:∃u,e2++x3=u:=⟨_,rfl⟩
    have le3:e3.length=e2.length+x3.length:=by (rw[← he3,List.length_append])<;>rfl
    have be4:e3.length+1≤most:=by unfold most;omega
    obtain⟨e4,he4⟩:∃u,e3++[32]=u:=⟨_,rfl⟩
    have le4:e4.length=e3.length+1:=by (rw[← he4,List.length_append])<;>rfl
    have be5:e4.length+x4.length≤most:=by unfold most;omega
    obtain⟨e5,he5⟩:∃u,e4++x4=u:=⟨_,rfl⟩
    have le5:e5.length=e4.length+x4.length:=by (rw[← he5,List.length_append])<;>rfl
    have hu:e5=rpS ((x1,x2),x3,x4):=by rw[← he5,← he4,← he3,← he2,← he1,← ha2,← ha1];simp[rpS,rpWd,modT,hv0]
    have hsp:=hSp e5 (by omega)
    obtain⟨W,hW⟩:∃W,sprT e5=W:=⟨_,rfl⟩
    have hWl:W.length≤56000:=by rw[← hW,hu];omega
    rw[hW] at hsp
    have bv:t.length+W.length≤most:=by unfold most;omega
    obtain⟨v,hv⟩:∃u,t++W=u:=⟨_,rfl⟩
    have lv:v.length=t.length+W.length:=by (rw[← hv,List.length_append])<;>rfl
    simp (maxSteps:=4000000) [-getElem?_pos,-List.append_assoc,-List.cons_append,-List.nil_append,-beq_iff_eq,-beq_eq_false_iff_ne,-Prod.exists,-Prod.forall,hv1,hjl,hxL,ba1,ha1,ba2,ha2,be1,he1,be2,he2,be3,he3,be4,he4,be5,he5,hsp,bv,hv,w1]
    exact⟨(j,v),by rw[← hv,← hW,hu];exact qfh hI hx,by simp,by simp⟩
  | zero =>
   have hT2:=qn2 hI
   clear hI hk
   obtain⟨T2,rfl⟩:∃z,z=t:=⟨_,rfl⟩
   simp (maxSteps:=4000000) [-Prod.exists,-Prod.forall,w03]
   refine ql (I:=fun p:Nat×List UInt8=>⟨[(7,.lp 7 0),(8,.str p.2),(13,.int .i64 ((p.1:Int)-1))],[(7,[.str cm,.str cg,.sl .sh LQ,.sl .sh LM,.sl .sh LP,.sl .sh LT])],σ⟩) (Pr:=fun p=>bwI T2 cex exS p.1 p.2) (μ:=fun p=>p.1) (a:=(LM.length,T2)) (by simp) (by rw[hmM];exact qf4 _ _ _) ?_
   rintro⟨k,t⟩ hI
   try simp only at hI
   try simp only at ⊢
   have htl:=qn3 hI
   try simp only[List.length_nil,Nat.zero_add] at htl
   have hk:=hI.1
   cases k with
   | succ j =>
    obtain⟨⟨x1,x2⟩,hx⟩:∃y,cex[j]? = some y:=⟨_,List.getElem?_eq_getElem (by omega)⟩
    have hxL:LM[j]? = some (.agg [.str x1,.str x2]):=by rw[← hLM,List.getElem?_map,hx];rfl
    have hjl:j<LM.length:=by omega
    obtain⟨_,hm1,_,hm2⟩:=qad (m2.ex _ (List.mem_of_getElem? hx))
    have hml:=qdr (F:=exS) (List.mem_of_getElem? hx)
    try simp only at hm1
    try simp only at hm2
    simp only[exS,List.length_append] at hml
    have w1:IntKind.i64.wrap ((j:Int)-1)=(j:Int)-1:=qh (by omega)
    have be1:x1.length+1≤most:=by unfold most;omega
    obtain⟨e1,he1⟩:∃u,x1++[32]=u:=⟨_,rfl⟩
    have le1:e1.length=x1.length+1:=by (rw[← he1,List.length_append])<;>rfl
    have be2:e1.length+x2.length≤most:=by unfold most;omega
    obtain⟨e2,he2⟩:∃u,e1++x2=u:=⟨_,rfl⟩
    have le2:e2.length=e1.length+x2.length:=by (rw[← he2,List.length_append])<;>rfl
    have hu:e2=x1++32::x2:=by rw[← he2,← he1];simp
    have hsp:=hSp e2 (by omega)
    obtain⟨W,hW⟩:∃W,sprT e2=W:=⟨_,rfl⟩
    have hWl:W.length≤56000:=by rw[← hW,hu];omega
    rw[hW] at hsp
    have bd1:t.length+9≤most:=by unfold most;omega
    obtain⟨d1,hd1⟩:∃u,t++[101,120,99,108,117,100,101,40,10]=u:=⟨_,rfl⟩
    have ld1:d1.length=t.length+9:=by (rw[← hd1,List.length_append])<;>rfl
    have bd2:d1.length+W.length≤most:=by unfold most;omega
    obtain⟨d2,hd2⟩:∃u,d1++W=u:=⟨_,rfl⟩
    have ld2:d2.length=d1.length+W.length:=by (rw[← hd2,List.length_append])<;>rfl
    have bd3:d2.length+2≤most:=by unfold most;omega
    obtain⟨d3,hd3⟩:∃u,d2++[41,10]=u:=⟨_,rfl⟩
    have ld3:d3.length=d2.length+2:=by (rw[← hd3,List.length_append])<;>rfl
    have hd:d3=t++exS (x1,x2):=by rw[← hd3,← hd2,← hd1,← hW,hu];simp[exS,exWd]
    simp (maxSteps:=4000000) [-getElem?_pos,-List.append_assoc,-List.cons_append,-List.nil_append,-Prod.exists,-Prod.forall,-qb]
    refine qg [] _ (k:=?_)
    repeat (first|refine qd _ (hs:=by simp (maxSteps:=4000000) [-getElem?_pos,-List.append_assoc,-List.cons_append,-List.nil_append,hjl,hxL,be1,he1,be2,he2,hsp,bd1,hd1,bd2,hd2,bd3,hd3];exact rfl) (k:=?_)|refine qe _ (k:=?_))
    refine qc ?_
    simp (maxSteps:=4000000) [-Prod.exists,-Prod.forall,w1]
    exact⟨(j,d3),by rw[hd];exact qfh hI hx,by simp,by simp⟩
   | zero =>
    have hT3:=qn2 hI
    clear hI hk
    obtain⟨T3,rfl⟩:∃z,z=t:=⟨_,rfl⟩
    simp (maxSteps:=4000000) [-Prod.exists,-Prod.forall,w04]
    refine ql (I:=fun p:Nat×List UInt8=>⟨[(7,.lp 7 0),(8,.str p.2),(14,.int .i64 ((p.1:Int)-1))],[(7,[.str cm,.str cg,.sl .sh LQ,.sl .sh LM,.sl .sh LP,.sl .sh LT])],σ⟩) (Pr:=fun p=>bwI T3 crq (fun x=>rqS x++[10]) p.1 p.2) (μ:=fun p=>p.1) (a:=(LQ.length,T3)) (by simp) (by rw[hmQ];exact qf4 _ _ _) ?_
    rintro⟨k,t⟩ hI
    try simp only at hI
    try simp only at ⊢
    have htl:=qn3 hI
    try simp only[List.length_nil,Nat.zero_add] at htl
    have hk:=hI.1
    cases k with
    | succ j =>
     obtain⟨⟨x1,x2,x3⟩,hx⟩:∃y,crq[j]? = some y:=⟨_,List.getElem?_eq_getElem (by omega)⟩
     have hxL:LQ[j]? = some (.agg [.str x1,.str x2,.bool x3]):=by rw[← hLQ,List.getElem?_map,hx];rfl
     have hjl:j<LQ.length:=by omega
     obtain⟨_,hm1,_,hm2⟩:=qad (m2.rq _ (List.mem_of_getElem? hx))
     try simp only at hm1
     try simp only at hm2
     have w1:IntKind.i64.wrap ((j:Int)-1)=(j:Int)-1:=qh (by omega)
     have be1:8+x1.length≤most:=by unfold most;omega
     obtain⟨e1,he1⟩:∃u,[114,101,113,117,105,114,101,32]++x1=u:=⟨_,rfl⟩
     have le1:e1.length=8+x1.length:=by (rw[← he1,List.length_append])<;>rfl
     have be2:e1.length+1≤most:=by unfold most;omega
     obtain⟨e2,he2⟩:∃u,e1++[32]=u:=⟨_,rfl⟩
     have le2:e2.length=e1.length+1:=by (rw[← he2,List.length_append])<;>rfl
     have be3:e2.length+x2.length≤most:=by unfold most;omega
     obtain⟨e3,he3⟩:∃u,e2++x2=u:=⟨_,rfl⟩
     have le3:e3.length=e2.length+x2.length:=by (rw[← he3,List.length_append])<;>rfl
     cases x3 with
     | true =>
      have be4:e3.length+13≤most:=by unfold most;omega
      obtain⟨e4,he4⟩:∃u,e3++[32,47,47,32,32,105,110,100,105,114,101,99,116]=u:=⟨_,rfl⟩
      have le4:e4.length=e3.length+13:=by (rw[← he4,List.length_append])<;>rfl
      have bv:t.length+e4.length≤most:=by unfold most;omega
      obtain⟨v,hv⟩:∃u,t++e4=u:=⟨_,rfl⟩
      have lv:v.length=t.length+e4.length:=by (rw[← hv,List.length_append])<;>rfl
      have bw:v.length+1≤most:=by unfold most;omega
      obtain⟨w,hw⟩:∃u,v++[10]=u:=⟨_,rfl⟩
      have lw:w.length=v.length+1:=by (rw[← hw,List.length_append])<;>rfl
      have hu:w=t++(rqS (x1,x2,true)++[10]):=by rw[← hw,← hv,← he4,← he3,← he2,← he1];simp[rqS,rqWd]
      simp (maxSteps:=4000000) [-getElem?_pos,-List.append_assoc,-List.cons_append,-List.nil_append,-Prod.exists,-Prod.forall,-qb]
      refine qg [] _ (k:=?_)
      repeat (first|refine qd _ (hs:=by simp (maxSteps:=4000000) [-getElem?_pos,-List.append_assoc,-List.cons_append,-List.nil_append,hjl,hxL,be1,he1,be2,he2,be3,he3];exact rfl) (k:=?_)|refine qe _ (k:=?_))
      refine qc ?_
      simp (maxSteps:=4000000) [-getElem?_pos,-List.append_assoc,-List.cons_append,-List.nil_append,-Prod.exists,-Prod.forall,hjl,hxL,be4,he4,bv,hv,bw,hw,w1]
      exact⟨(j,w),by rw[hu];exact qfh hI hx,by simp,by simp⟩
     | false =>
      have bv:t.length+e3.length≤most:=by unfold most;omega
      obtain⟨v,hv⟩:∃u,t++e3=u:=⟨_,rfl⟩
      have lv:v.length=t.length+e3.length:=by (rw[← hv,List.length_append])<;>rfl
      have bw:v.length+1≤most:=by unfold most;omega
      obtain⟨w,hw⟩:∃u,v++[10]=u:=⟨_,rfl⟩
      have lw:w.length=v.length+1:=by (rw[← hw,List.length_append])<;>rfl
      have hu:w=t++(rqS (x1,x2,false)++[10]):=by rw[← hw,← hv,← he3,← he2,← he1];simp[rqS,rqWd]
      simp (maxSteps:=4000000) [-getElem?_pos,-List.append_assoc,-List.cons_append,-List.nil_append,-Prod.exists,-Prod.forall,-qb]
      refine qg [] _ (k:=?_)
      repeat (first|refine qd _ (hs:=by simp (maxSteps:=4000000) [-getElem?_pos,-List.append_assoc,-List.cons_append,-List.nil_append,hjl,hxL,be1,he1,be2,he2,be3,he3];exact rfl) (k:=?_)|refine qe _ (k:=?_))
      refine qc ?_
      simp (maxSteps:=4000000) [-getElem?_pos,-List.append_assoc,-List.cons_append,-List.nil_append,-Prod.exists,-Prod.forall,hjl,hxL,bv,hv,bw,hw,w1]
      exact⟨(j,w),by rw[hu];exact qfh hI hx,by simp,by simp⟩
    | zero =>
     have hT4:=qn2 hI
     clear hI hk
     obtain⟨T4,rfl⟩:∃z,z=t:=⟨_,rfl⟩
     by_cases hc0:cg=[]
     ·subst hc0
      have bm1:7+cm.length≤most:=by unfold most;omega
      obtain⟨m1,hm1⟩:∃u,[109,111,100,117,108,101,32]++cm=u:=⟨_,rfl⟩
      have lm1:m1.length=7+cm.length:=by (rw[← hm1,List.length_append])<;>rfl
      have hum:m1=mdW++32::cm:=by rw[← hm1];simp[mdW]
      have hspm:=hSp m1 (by omega)
      obtain⟨Y,hY⟩:∃W,sprT m1=W:=⟨_,rfl⟩
      have hYl:Y.length≤56000:=by rw[← hY,hum];omega
      rw[hY] at hspm
      have bz:T4.length+Y.length≤most:=by unfold most;omega
      obtain⟨z,hz⟩:∃u,T4++Y=u:=⟨_,rfl⟩
      have lz:z.length=T4.length+Y.length:=by (rw[← hz,List.length_append])<;>rfl
      have hzz:z=blnT ⟨cm,[],crq,cex,crp,crt⟩:=by rw[← hz,← hY,hum,hT4,hT3,hT2,hT1];simp[blnT,goS]
      rw[← hzz] at hPc
      simp (maxSteps:=4000000) [-getElem?_pos,-List.append_assoc,-List.cons_append,-List.nil_append,bm1,hm1,bz,hz,hspm,hPc,hAc,hN,Tryz.results4]
     ·have hgl:=congrArg List.length (show goS cg=sprT (goW++32::cg) by rw[goS,if_neg hc0])
      have bg1:3+cg.length≤most:=by unfold most;omega
      obtain⟨g1,hg1⟩:∃u,[103,111,32]++cg=u:=⟨_,rfl⟩
      have lg1:g1.length=3+cg.length:=by (rw[← hg1,List.length_append])<;>rfl
      have hug:g1=goW++32::cg:=by rw[← hg1];simp[goW]
      have hspg:=hSp g1 (by omega)
      obtain⟨G,hG⟩:∃G,sprT g1=G:=⟨_,rfl⟩
      have hGl:G.length≤56000:=by rw[← hG,hug];omega
      rw[hG] at hspg
      have hgo:G=goS cg:=by rw[← hG,hug,goS,if_neg hc0]
      have bv1:T4.length+G.length≤most:=by unfold most;omega
      obtain⟨v1,hv1⟩:∃u,T4++G=u:=⟨_,rfl⟩
      have lv1:v1.length=T4.length+G.length:=by (rw[← hv1,List.length_append])<;>rfl
      have bm1:7+cm.length≤most:=by unfold most;omega
      obtain⟨m1,hm1⟩:∃u,[109,111,100,117,108,101,32]++cm=u:=⟨_,rfl⟩
      have lm1:m1.length=7+cm.length:=by (rw[← hm1,List.length_append])<;>rfl
      have hum:m1=mdW++32::cm:=by rw[← hm1];simp[mdW]
      have hspm:=hSp m1 (by omega)
      obtain⟨Y,hY⟩:∃W,sprT m1=W:=⟨_,rfl⟩
      have hYl:Y.length≤56000:=by rw[← hY,hum];omega
      rw[hY] at hspm
      have bz:v1.length+Y.length≤most:=by unfold most;omega
      obtain⟨z,hz⟩:∃u,v1++Y=u:=⟨_,rfl⟩
      have lz:z.length=v1.length+Y.length:=by (rw[← hz,List.length_append])<;>rfl
      have hzz:z=blnT ⟨cm,cg,crq,cex,crp,crt⟩:=by rw[← hz,← hv1,hgo,← hY,hum,hT4,hT3,hT2,hT1];simp[blnT]
      rw[← hzz] at hPc
      have hc1:(cg==[])=false:=by simpa using hc0
      simp (maxSteps:=4000000) [-getElem?_pos,-List.append_assoc,-List.cons_append,-List.nil_append,-beq_iff_eq,-beq_eq_false_iff_ne,hc1,bg1,hg1,hspg,bv1,hv1,bm1,hm1,bz,hz,hspm,hPc,hAc,hN,Tryz.results4]
theorem mblanLaw (f:MfT) (hs:MfSm (mfO f)) (σ:List (List AV)):ev1 4 [mfF (mfO f)] σ=some (.bool true,σ):=qtg (mfO f) hs.B.1 hs.B.2 σ
end Go.Proofs.Tryz.Ai
end
section
namespace Go.Proofs.Tryz.Ai
open Go Go.AI Go.Proofs
set_option maxHeartbeats 4000000
set_option maxRecDepth 4000
set_option linter.unusedVariables false
def rmQ (p:List UInt8) (L:List Rq):List Rq:=L.filter fun x=>!isQ p x
def addQ (L:List Rq) (r:Rq):List Rq:=rmQ r.1 L++[r]
def addE (f:Mf) (r:Rq):Int:=fstE [(checkB r.1 r.2.1:Int),if r.1=f.m then 12 else 0,if 200<(addQ f.rq r).length then 14 else 0]
def addR (f:Mf) (r:Rq):Mf:=canonM {f with rq:=addQ f.rq r}
def drpR (f:Mf) (p:List UInt8):Mf:=canonM {f with rq:=rmQ p f.rq}
def drpB (f:Mf) (p:List UInt8):Bool:=decide ((rmQ p f.rq).length<f.rq.length)
def verQ (L:List Rq) (p:List UInt8):Option (List UInt8):=(L.find? (isQ p)).map (·.2.1)
theorem qei {p:List UInt8} {x:Rq}:isQ p x=true↔x.1=p:=by unfold isQ;simp
theorem qej {p:List UInt8} {L:List Rq} {x:Rq}:x∈rmQ p L↔x∈L∧x.1≠p:=by
 unfold rmQ
 rw[List.mem_filter]
 constructor
 ·rintro⟨h1,h2⟩
  exact⟨h1,fun e=>by rw[qei.2 e] at h2;cases h2⟩
 ·rintro⟨h1,h2⟩
  refine⟨h1,?_⟩
  cases e:isQ p x with
  | false=>rfl
  | true=>exact absurd (qei.1 e) h2
theorem qf5 {p:List UInt8} {L:List Rq} (h:∀x∈L,x.1≠p):rmQ p L=L:=by
 unfold rmQ
 rw[List.filter_eq_self]
 intro x hx
 cases e:isQ p x with
 | false=>rfl
 | true=>exact absurd (qei.1 e) (h x hx)
theorem qxs (p:List UInt8) (L:List Rq):(rmQ p L).length≤L.length:=List.length_filter_le _ _
theorem qf6 {p:List UInt8} {L M:List Rq} (h:L.Perm M):(rmQ p L).Perm (rmQ p M):=h.filter _
theorem qj4 (p:List UInt8) (L M:List Rq):rmQ p (L++M)=rmQ p L++rmQ p M:=List.filter_append ..
theorem qth {p:List UInt8} {r:Rq} (h:r.1≠p):rmQ p [r]=[r]:=qf5 fun x hx=>by rw[List.mem_singleton.1 hx];exact h
theorem qn5 {p:List UInt8} {r:Rq} (h:r.1=p):rmQ p [r]=[]:=by
 unfold rmQ
 rw[List.filter_cons,qei.2 h];simp
theorem q26 {p:List UInt8} {L:List Rq} (h:L.Pairwise fun y x=>y.1≠x.1):(rmQ p L).Pairwise fun y x=>y.1≠x.1:=h.filter _
theorem qwp (p q:List UInt8) (L:List Rq):rmQ p (rmQ q L)=rmQ q (rmQ p L):=by
 unfold rmQ
 rw[List.filter_filter,List.filter_filter]
 congr 1
 funext x
 exact Bool.and_comm _ _
theorem qti {L:List Rq} {r:Rq} (h:L.Pairwise fun y x=>y.1≠x.1):(addQ L r).Pairwise fun y x=>y.1≠x.1:=qz7 (q26 h) fun y hy=>(qej.1 hy).2
theorem qtj {L M:List Rq} (h:L.Perm M) (hd:L.Pairwise fun y x=>y.1≠x.1):isrt rqC L=isrt rqC M:=by
 refine qcb TP.rqC (h.trans (qaj M).symm) (qdq (R:=fun y x:Rq=>y.1≠x.1) TP.rqC (qa8 TP.rqC M) ?_ fun a b k e=>k (TO.bytes.eq _ _ e))
 exact ((h.trans (qaj M).symm).pairwise_iff fun k=>Ne.symm k).1 hd
theorem qn6 {f g:Mf} (h1:f.m=g.m) (h2:f.g=g.g) (h3:isrt rqC f.rq=isrt rqC g.rq) (h4:isrt modC f.ex=isrt modC g.ex) (h5:isrt rpC f.rp=isrt rpC g.rp) (h6:isrt rtC f.rt=isrt rtC g.rt):canonM f=canonM g:=by
 obtain⟨a1,a2,a3,a4,a5,a6⟩:=f
 obtain⟨b1,b2,b3,b4,b5,b6⟩:=g
 simp only at h1 h2 h3 h4 h5 h6
 simp only[canonM,h1,h2,h3,h4,h5,h6]
theorem qtk {f:Mf} (a:Rq):((addR f a).rq.filter fun x=>x.1==a.1).length=1:=by
 have h:((addR f a).rq.filter fun x=>x.1==a.1).Perm ((addQ f.rq a).filter fun x=>x.1==a.1):=(qaj _).filter _
 rw[h.length_eq]
 unfold addQ
 rw[List.filter_append]
 have h1:(rmQ a.1 f.rq).filter (fun x=>x.1==a.1)=[]:=by
  rw[List.filter_eq_nil_iff]
  intro x hx
  simpa using (qej.1 hx).2
 rw[h1];simp
theorem q0j {f:Mf} (a:Rq):verQ (addR f a).rq a.1=some a.2.1:=by
 have hm:∀x∈(addR f a).rq,x.1=a.1→x=a:=by
  intro x hx e
  have:x∈addQ f.rq a:=(qag (c:=rqC)).1 hx
  rcases List.mem_append.1 this with h|h
  ·exact absurd e (qej.1 h).2
  ·exact List.mem_singleton.1 h
 have ha:a∈(addR f a).rq:=(qag (c:=rqC)).2 (by unfold addQ;simp)
 unfold verQ
 cases h:(addR f a).rq.find? (isQ a.1) with
 | none=>exact absurd (qei.2 rfl) (List.find?_eq_none.1 h a ha)
 | some x=>rw[hm x (List.mem_of_find?_eq_some h) (qei.1 (List.find?_some h))];rfl
theorem qhy {f:Mf} (a:Rq):drpB (addR f a) a.1=true:=by
 have hp:(addR f a).rq.Perm (addQ f.rq a):=qaj _
 have h1:(rmQ a.1 (addR f a).rq).length=(rmQ a.1 (addQ f.rq a)).length:=(qf6 hp).length_eq
 have h2:rmQ a.1 (addQ f.rq a)=rmQ a.1 f.rq:=by
  unfold addQ
  rw[qj4,qn5 rfl,List.append_nil,qf5 fun x hx=>(qej.1 hx).2]
 unfold drpB
 rw[h1,h2,hp.length_eq]
 unfold addQ
 simp
theorem qwq {f:Mf} (hd:f.rq.Pairwise fun y x=>y.1≠x.1) {a:Rq} (hn:∀x∈f.rq,x.1≠a.1):drpR (addR f a) a.1=canonM f:=by
 refine qn6 rfl rfl ?_ (qa8 TO.modC.tp _) (qa8 TP.rpC _) (qa8 TO.rtC.tp _)
 have h2:rmQ a.1 (addQ f.rq a)=f.rq:=by
  unfold addQ
  rw[qf5 hn,qj4,qn5 rfl,List.append_nil,qf5 hn]
 have hp:(rmQ a.1 (addR f a).rq).Perm f.rq:=by
  have:=qf6 (p:=a.1) (qaj (c:=rqC) (addQ f.rq a))
  rw[h2] at this;exact this
 exact (qtj hp.symm hd).symm
theorem qwr {f:Mf} (hd:f.rq.Pairwise fun y x=>y.1≠x.1) {a b:Rq} (hab:a.1≠b.1):addR (addR f a) b=addR (addR f b) a:=by
 refine qn6 rfl rfl ?_ rfl rfl rfl
 have e1:(addQ (addR f a).rq b).Perm (rmQ b.1 (rmQ a.1 f.rq)++[a]++[b]):=by
  unfold addQ
  refine List.Perm.append_right _ ?_
  have:=qf6 (p:=b.1) (qaj (c:=rqC) (addQ f.rq a))
  have e:rmQ b.1 (addQ f.rq a)=rmQ b.1 (rmQ a.1 f.rq)++[a]:=by unfold addQ;rw[qj4,qth hab]
  rw[e] at this;exact this
 have e2:(addQ (addR f b).rq a).Perm (rmQ a.1 (rmQ b.1 f.rq)++[b]++[a]):=by
  unfold addQ
  refine List.Perm.append_right _ ?_
  have:=qf6 (p:=a.1) (qaj (c:=rqC) (addQ f.rq b))
  have e:rmQ a.1 (addQ f.rq b)=rmQ a.1 (rmQ b.1 f.rq)++[b]:=by unfold addQ;rw[qj4,qth fun h=>hab h.symm]
  rw[e] at this;exact this
 have e3:(rmQ b.1 (rmQ a.1 f.rq)++[a]++[b]).Perm (rmQ a.1 (rmQ b.1 f.rq)++[b]++[a]):=by
  rw[qwp,List.append_assoc,List.append_assoc]
  exact List.Perm.append_left _ (List.Perm.swap b a [])
 have hd1:(addR f a).rq.Pairwise fun y x=>y.1≠x.1:=((qaj (c:=rqC) _).pairwise_iff fun k=>Ne.symm k).2 (qti hd)
 exact qtj (e1.trans (e3.trans e2.symm)) (qti hd1)
theorem qj5 (L:List Rq) (r:Rq):(addQ L r).length≤L.length+1:=by
 unfold addQ
 have:=qxs r.1 L
 simp;omega
theorem qn7 (f:Mf) (r:Rq):(addR f r).rq.length≤f.rq.length+1:=by
 have h:(addR f r).rq.length=(addQ f.rq r).length:=qw _
 have:=qj5 f.rq r
 omega
theorem qj6 {f:Mf} {r:Rq} (hl:f.rq.length≤199):addE f r=fstE [(checkB r.1 r.2.1:Int),if r.1=f.m then 12 else 0,0]:=by
 have:=qj5 f.rq r
 have h:¬200<(addQ f.rq r).length:=by omega
 unfold addE
 rw[if_neg h]
end Go.Proofs.Tryz.Ai
end
