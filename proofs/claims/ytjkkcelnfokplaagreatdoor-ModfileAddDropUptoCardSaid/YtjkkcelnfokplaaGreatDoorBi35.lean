/- Part 35 of a proof: Go functions are evaluated on abstract values; no conditions beyond those of each theorem. -/
import Derived.Test.YtjkkcelnfokplaaGreatDoorBi31
import Derived.Test.YtjkkcelnfokplaaGreatDoorBi33
set_option linter.all false
set_option maxHeartbeats 16000000
set_option maxRecDepth 4000
section
namespace Go.Proofs.Tryz.Ai
open Go Go.AI Go.Proofs
theorem qen {a b:Int}:orI a b=0↔a=0∧b=0:=⟨qa3,fun ⟨h1,h2⟩=>by unfold orI;rw[if_pos h1];exact h2⟩
theorem fst2 {u:Int} {c:Prop} [Decidable c]:fstE [u,if c then 12 else 0]=0↔u=0∧¬c:=by
 show orI u (orI (if c then 12 else 0) 0)=0↔_
 rw[qen,qen]
 by_cases hc:c<;>simp[hc]
theorem qeb {α:Type} {own:α→Int} {same:α→α→Bool}:∀(l a:List α),eachF own same a l=0↔(∀x∈l,own x=0)∧(∀x∈l,∀y∈a,same x y=false)∧l.Pairwise fun y x=>same x y=false
 | [],a=>by simp[eachF]
 | x::r,a=>by
  rw[eachF,qen,fst2,qeb r (a++[x]),List.pairwise_cons]
  constructor
  ·rintro⟨⟨h1,h2⟩,h3,h4,h5⟩
   have h2':∀y∈a,same x y=false:=by simpa using h2
   refine⟨fun y hy=>?_,fun y hy z hz=>?_,fun y hy=>h4 y hy x (by simp),h5⟩
   ·rcases List.mem_cons.1 hy with rfl|hy
    ·exact h1
    ·exact h3 y hy
   ·rcases List.mem_cons.1 hy with rfl|hy
    ·exact h2' z hz
    ·exact h4 y hy z (by simp[hz])
  ·rintro⟨h1,h2,h3,h4⟩
   refine⟨⟨h1 x (by simp),?_⟩,fun y hy=>h1 y (by simp[hy]),fun y hy z hz=>?_,h4⟩
   ·simpa using h2 x (by simp)
   ·rcases List.mem_append.1 hz with hz|hz
    ·exact h2 y (by simp[hy]) z hz
    ·rw[List.mem_singleton.1 hz];exact h3 y hy
theorem qlk {m:List UInt8}:∀(l a:List Rq),rqsF m a l=0↔(∀x∈l,checkB x.1 x.2.1=0∧x.1≠m)∧(∀x∈l,∀y∈a,y.1≠x.1)∧l.Pairwise fun y x=>y.1≠x.1
 | [],a=>by simp[rqsF]
 | x::r,a=>by
  rw[rqsF,qen,fst2,qlk r (a++[x]),List.pairwise_cons]
  constructor
  ·rintro⟨⟨h1,h2⟩,h3,h4,h5⟩
   simp only[Bool.or_eq_true,List.any_eq_true,not_or,not_exists,not_and,isQ,beq_iff_eq] at h2
   refine⟨fun y hy=>?_,fun y hy z hz=>?_,fun y hy=>h4 y hy x (by simp),h5⟩
   ·rcases List.mem_cons.1 hy with rfl|hy
    ·exact⟨by omega,h2.2⟩
    ·exact h3 y hy
   ·rcases List.mem_cons.1 hy with rfl|hy
    ·exact h2.1 z hz
    ·exact h4 y hy z (by simp[hz])
  ·rintro⟨h1,h2,h3,h4⟩
   refine⟨⟨by have:=(h1 x (by simp)).1;omega,?_⟩,fun y hy=>h1 y (by simp[hy]),fun y hy z hz=>?_,h4⟩
   ·simp only[Bool.or_eq_true,List.any_eq_true,not_or,not_exists,not_and,isQ,beq_iff_eq]
    exact⟨fun y hy=>h2 x (by simp) y hy,(h1 x (by simp)).2⟩
   ·rcases List.mem_append.1 hz with hz|hz
    ·exact h2 y (by simp[hy]) z hz
    ·rw[List.mem_singleton.1 hz];exact h3 y hy
theorem qrn {m x:List UInt8×List UInt8}:isM m x=true↔x=m:=by
 unfold isM
 simp only[Bool.and_eq_true,beq_iff_eq]
 exact⟨fun h=>Prod.ext h.1 h.2,fun h=>by rw[h];exact⟨rfl,rfl⟩⟩
theorem qeo {m x:List UInt8×List UInt8}:isM m x=false↔x≠m:=by
 constructor
 ·intro h e
  rw[qrn.2 e] at h
  cases h
 ·intro h
  cases e:isM m x with
  | false=>rfl
  | true=>exact absurd (qrn.1 e) h
structure LsOk (f:Mf):Prop where
 go:f.g=[]∨minorB f.g≠none
 most:f.rq.length≤200∧f.ex.length≤200∧f.rp.length≤200∧f.rt.length≤200
 rq:∀x∈f.rq,checkB x.1 x.2.1=0
 rqd:f.rq.Pairwise fun y x=>y.1≠x.1
 ex:∀x∈f.ex,checkB x.1 x.2=0
 exd:f.ex.Pairwise fun y x=>y≠x
 rp:∀x∈f.rp,rpE x=0
 rpd:f.rp.Pairwise fun y x=>y.1≠x.1
 rt:∀x∈f.rt,rtE x=0
 rtd:f.rt.Pairwise fun y x=>y≠x
theorem qiy {f:Mf}:mfE f=0↔pathB f.m=0∧LsOk f∧∀x∈f.rq,x.1≠f.m:=by
 constructor
 ·intro h
  obtain⟨h1,h2,h3,h4,h5,h6,h7⟩:=qmf h
  rw[qlk] at h4
  rw[eachE,qeb] at h5 h6 h7
  refine⟨h1,⟨h2,h3,fun x hx=>(h4.1 x hx).1,h4.2.2,fun x hx=>by have:=h5.1 x hx;omega,h5.2.2.imp fun h=>qeo.1 h,h6.1,h6.2.2.imp fun h=>qeo.1 h,h7.1,h7.2.2.imp fun h=>qeo.1 h⟩,fun x hx=>(h4.1 x hx).2⟩
 ·rintro⟨h1,⟨h2,h3,h4,h5,h6,h7,h8,h9,h10,h11⟩,h12⟩
  have a1:rqsF f.m [] f.rq=0:=(qlk _ _).2 ⟨fun x hx=>⟨h4 x hx,h12 x hx⟩,by simp,h5⟩
  have a2:eachE (fun x=>(checkB x.1 x.2:Int)) isM f.ex=0:=(qeb _ _).2 ⟨fun x hx=>by have:=h6 x hx;omega,by simp,h7.imp fun h=>qeo.2 h⟩
  have a3:eachE rpE (fun x y=>isM x.1 y.1) f.rp=0:=(qeb _ _).2 ⟨h8,by simp,h9.imp fun h=>qeo.2 h⟩
  have a4:eachE rtE isM f.rt=0:=(qeb _ _).2 ⟨h10,by simp,h11.imp fun h=>qeo.2 h⟩
  have a5:headE f=0:=by
   have b1:¬(f.g≠[]∧minorB f.g=none):=fun ⟨k1,k2⟩=>by
    rcases h2 with h|h
    ·exact k1 h
    ·exact h k2
   have b2:¬200<mostM f:=by
    unfold mostM mxI
    obtain⟨c1,c2,c3,c4⟩:=h3
    (repeat' split)<;>omega
   unfold headE
   rw[if_neg b1,if_neg b2,h1]
   rfl
  unfold mfE tailE
  rw[a5,a1,a2,a3,a4];rfl
theorem LsOk.canon {f:Mf} (h:LsOk f):LsOk (canonM f):=by
 obtain⟨h2,h3,h4,h5,h6,h7,h8,h9,h10,h11⟩:=h
 refine⟨h2,?_,fun x hx=>h4 x (q9.1 hx),?_,fun x hx=>h6 x (q9.1 hx),?_,fun x hx=>h8 x (q9.1 hx),?_,fun x hx=>h10 x (q9.1 hx),?_⟩
 ·simp only[canonM,qv];exact h3
 ·exact ((qad _).pairwise_iff fun h=>Ne.symm h).2 h5
 ·exact ((qad _).pairwise_iff fun h=>Ne.symm h).2 h7
 ·exact ((qad _).pairwise_iff fun h=>Ne.symm h).2 h9
 ·exact ((qad _).pairwise_iff fun h=>Ne.symm h).2 h11
theorem qro {f:Mf} (h:mfE f=0):mfE (canonM f)=0:=by
 obtain⟨h1,h2,h3⟩:=qiy.1 h
 exact qiy.2 ⟨h1,h2.canon,fun x hx=>h3 x (q9.1 hx)⟩
structure PInv (p:Ps):Prop where
 md:p.md=true→pathB p.f.m=0
 ls:LsOk p.f
def KpI (R:Ps→List Tok→Except Int Ps):Prop:=∀p l q,R p l=.ok q→PInv p→PInv q
theorem fst2' {u v:Int}:fstE [u,v]=0↔u=0∧v=0:=by
 show orI u (orI v 0)=0↔_
 rw[qen,qen];simp
theorem qyl {α:Type} {R:α→α→Prop} {l:List α} {x:α} (h:l.Pairwise R) (hx:∀y∈l,R y x):(l++[x]).Pairwise R:=by
 rw[List.pairwise_append]
 exact⟨h,by simp,fun y hy z hz=>by rw[List.mem_singleton.1 hz];exact hx y hy⟩
theorem PInv.same {p q:Ps} (h:PInv p) (h1:q.f=p.f) (h2:q.md=p.md):PInv q:=⟨by rw[h1,h2];exact h.md,by rw[h1];exact h.ls⟩
end Go.Proofs.Tryz.Ai
end
section
namespace Go.Proofs.Tryz.Ai
open Go Go.AI Go.Proofs
theorem Wrd.nl {s:List UInt8} (h:Wrd s):(10:UInt8)∉s:=fun hm=>by have:=h.wd 10 hm;revert this;decide
def Nxt (p:Ps) (s:List UInt8) (f:Mf):Prop:=∃q,readP p s=.ok q∧q.f=f∧q.blk=p.blk∧q.md=p.md
theorem qu4 {x:Rp}:rpE x=0↔pathB x.1.1=0∧(x.1.2=[]∨checkB x.1.1 x.1.2=0)∧checkB x.2.1 x.2.2=0:=by
 unfold rpE
 rw[fst2',fst2']
 by_cases h:x.1.2=[]
 ·simp[h]<;>omega
 ·simp[h]<;>omega
theorem qu5 {x:Rt} (h:rtE x=0):readB x.1≠none∧readB x.2≠none:=by
 unfold rtE at h
 rw[fst2'] at h
 have h1:=h.1
 cases ha:readB x.1 with
 | none=>rw[ha] at h1;simp at h1
 | some a=>cases hb:readB x.2 with
  | none=>rw[ha,hb] at h1;simp at h1
  | some b=>simp
def blkL {α:Type} (w:List UInt8) (L:List α) (line:α→List UInt8):List (List UInt8):=if L=[] then [] else []::(w++[32,40])::((L.map fun x=>9::line x)++[[41]])
def fmtL (f:Mf):List (List UInt8):=(moT++f.m)::((if f.g=[] then [] else [[],[103,111,32]++f.g])++(blkL rqWd f.rq rqT++(blkL exWd f.ex modT++(blkL rpWd f.rp rpT++blkL rtWd f.rt rtT))))
theorem bef {α:Type} {R:α→α→Prop} {a b:List α} {x:α} (h:(a++x::b).Pairwise R):∀y∈a,R y x:=fun y hy=>(List.pairwise_append.1 h).2.2 y hy x (by simp)
end Go.Proofs.Tryz.Ai
end
section
namespace Go.Proofs.Tryz.Ai
open Go Go.AI Go.Proofs
def szF (f:Mf):Nat:=f.m.length+f.g.length+(f.rq.map fun x=>x.1.length+x.2.1.length).sum+(f.ex.map fun x=>x.1.length+x.2.length).sum+(f.rp.map fun x=>x.1.1.length+x.1.2.length+x.2.1.length+x.2.2.length).sum+(f.rt.map fun x=>x.1.length+x.2.length).sum
def KpS (R:Ps→List Tok→Except Int Ps):Prop:=∀p l q n,R p l=.ok q→(∀t∈l,t.2.length≤n)→szF q.f≤szF p.f+4*n
end Go.Proofs.Tryz.Ai
end
section
namespace Go.Proofs.Tryz.Ai
open Go Go.AI Go.Proofs
def KpE (R:Ps→List Tok→Except Int Ps):Prop:=∀p l e,R p l=.error e→e≠0
end Go.Proofs.Tryz.Ai
end
section
namespace Go.Proofs.Tryz.Ai
open Go Go.AI Go.Proofs
theorem MfSm.B {f:Mf} (h:MfSm f):MfB f∧MfS f:=by
 obtain⟨h1,h2,h3,h4,h5,h6,h7,h8,h9,h10⟩:=h
 refine⟨⟨by omega,by omega,by omega,by omega,by omega,by omega,fun x hx=>?_,fun x hx=>?_,fun x hx=>?_,fun x hx=>?_⟩,⟨by omega,by omega,fun x hx=>?_,fun x hx=>?_,fun x hx=>?_,fun x hx=>?_⟩⟩
 ·have:=h7 x hx;omega
 ·have:=h8 x hx;exact⟨by omega,by omega⟩
 ·have:=h9 x hx;exact⟨⟨by omega,by omega⟩,⟨by omega,by omega⟩⟩
 ·have:=h10 x hx;exact⟨by omega,by omega⟩
 ·have:=h7 x hx;exact⟨by simp only;omega,by simp only;omega⟩
 ·have:=h8 x hx;exact⟨by omega,by omega⟩
 ·have:=h9 x hx;exact⟨⟨by omega,by omega⟩,⟨by omega,by omega⟩⟩
 ·have:=h10 x hx;exact⟨by omega,by omega⟩
theorem qrs {f:Mf} (h:mfE f=0):MfSm f:=by
 obtain⟨h1,h2,_⟩:=qiy.1 h
 have hm:=(qix h1).2
 have hg:f.g.length≤11:=by
  rcases h2.go with h|h
  ·rw[h];simp
  ·exact (qyk h).2
 obtain⟨k1,k2,k3,k4⟩:=h2.most
 refine⟨by omega,by omega,by omega,by omega,by omega,by omega,fun x hx=>?_,fun x hx=>?_,fun x hx=>?_,fun x hx=>?_⟩
 ·obtain⟨_,a,_,b⟩:=qea (h2.rq x hx);omega
 ·obtain⟨_,a,_,b⟩:=qea (h2.ex x hx);omega
 ·obtain⟨a,b,c⟩:=qu4.1 (h2.rp x hx)
  have a:=(qix a).2
  obtain⟨_,c1,_,c2⟩:=qea c
  have:x.1.2.length≤60:=by
   rcases b with b|b
   ·rw[b];simp
   ·exact (qea b).2.2.2
  omega
 ·obtain⟨a,b⟩:=qu5 (h2.rt x hx)
  have:=(qlj a).2
  have:=(qlj b).2
  omega
theorem qdr (a:Mf):alikeB a a=true:=qep.2 rfl
theorem mf0_B:MfB mf0:=⟨by simp[mf0],by simp[mf0],by simp[mf0],by simp[mf0],by simp[mf0],by simp[mf0],by simp[mf0],by simp[mf0],by simp[mf0],by simp[mf0]⟩
theorem qn4 (σ:List (List AV)):ev 17 [.agg [.str [],.str [],.sl .sh [],.sl .sh [],.sl .sh [],.sl .sh []],.agg [.str [],.str [],.sl .nil [],.sl .nil [],.sl .nil [],.sl .nil []]] σ=some (.bool true,σ):=by
 have h1:=fun σ=>qrp [] [] [] [] [] [] (by simp) (by simp) (by simp) (by simp) σ
 have h2:=fun σ=>qrr mf0 mf0 mf0_B σ
 rw[qdr] at h2
 simp only[mfFx,mf0,List.map_nil] at h1 h2
 refine qh func17 ntmps17 ?_
 simp (maxSteps:=mS) [-qb]
 refine qk [] _ (k:=?_)
 repeat (first|refine qd _ (hs:=by simp (maxSteps:=mS) [h1,h2];exact rfl) (k:=?_)|refine qe _ (k:=?_))
 refine qc ?_
 simp (maxSteps:=mS) [results17]
end Go.Proofs.Tryz.Ai
end
section
namespace Go.Proofs.Tryz.Ai
open Go Go.AI Go.Proofs
def sprC (c:UInt8):List UInt8:=if c=32 then [32,9,32] else [c]
def sprS (s:List UInt8):List UInt8:=s.flatMap sprC
def cmtT:List UInt8:=[47,47,32,97,32,99,111,109,109,101,110,116,32,40,32,91,32,1]
def sprT (s:List UInt8):List UInt8:=9::32::sprS s++[10,32,9,10]++cmtT++[10]
def Nx3 (p:Ps) (s:List UInt8) (f:Mf):Prop:=∃q,readLs p [9::32::sprS s,[32,9],cmtT]=.ok q∧q.f=f∧q.blk=p.blk∧q.md=p.md
def rtS (x:Rt):List UInt8:=rtWd++32::91::(x.1++44::(x.2++[93]))
def rpS (x:Rp):List UInt8:=rpWd++32::(modT x.1++32::61::62::32::(x.2.1++32::x.2.2))
def rqS (x:Rq):List UInt8:=rqWd++32::(x.1++32::x.2.1)++if x.2.2 then [32,47,47,32,32,105,110,100,105,114,101,99,116] else []
end Go.Proofs.Tryz.Ai
end
section
namespace Go.Proofs.Tryz.Ai
open Go Go.AI Go.Proofs
theorem qhq {α:Type} {c:α→α→Int} (h:TP c):∀{l w:List α},w.Perm l→Srt c w→(l.Pairwise fun a b=>c a b<0)→w=l
 | [],w,hp,_,_=>hp.eq_nil
 | a::l,[],hp,_,_=>by have:=hp.length_eq;simp at this
 | a::l,b::w,hp,hs,hl=>by
  obtain⟨h1,h2⟩:=List.pairwise_cons.1 hl
  obtain⟨h3,h4⟩:=List.pairwise_cons.1 (show (b::w).Pairwise _ from hs)
  by_cases e:b=a
  ·subst e
   rw[qhq h (List.Perm.cons_inv hp) h4 h2]
  ·exfalso
   have hb:b∈l:=by
    rcases List.mem_cons.1 (hp.mem_iff.1 (List.mem_cons_self ..)) with h|h
    ·exact absurd h e
    ·exact h
   have ha:a∈w:=by
    rcases List.mem_cons.1 (hp.mem_iff.2 (List.mem_cons_self ..)) with h|h
    ·exact absurd h.symm e
    ·exact h
   have k1:=h1 b hb
   have k2:=h3 a ha
   have k3:=h.flip a b
   omega
theorem qll {α:Type} {c:α→α→Int} (h:TP c) {l w:List α} (hp:w.Perm l) (hl:l.Pairwise fun a b=>c a b<0):isrt c w=l:=qhq h ((qad w).trans hp) (qbo h w) hl
theorem qrt {α:Type} {c:α→α→Int} (h:TP c) {l:List α} (hs:isrt c l=l) {R:α→α→Prop} (hd:l.Pairwise R) (hR:∀a b,R a b→c a b≠0):l.Pairwise fun a b=>c a b<0:=by
 have h1:Srt c l:=by have:=qbo h l;rw[hs] at this;exact this
 refine (List.Pairwise.and h1 hd).imp fun {a b} ⟨k1,k2⟩=>?_
 have:=hR a b k2
 omega
def exS (x:List UInt8×List UInt8):List UInt8:=exWd++[40,10]++sprT (x.1++32::x.2)++[41,10]
def goS (g:List UInt8):List UInt8:=if g=[] then [] else sprT (goW++32::g)
def blnT (c:Mf):List UInt8:=(c.rt.reverse.flatMap fun x=>sprT (rtS x))++((c.rp.reverse.flatMap fun x=>sprT (rpS x))++((c.ex.reverse.flatMap exS)++((c.rq.reverse.flatMap fun x=>rqS x++[10])++(goS c.g++sprT (mdW++32::c.m)))))
def s3 (s:List UInt8):List (List UInt8):=[9::32::sprS s,[32,9],cmtT]
def blnL (c:Mf):List (List UInt8):=(c.rt.reverse.flatMap fun x=>s3 (rtS x))++((c.rp.reverse.flatMap fun x=>s3 (rpS x))++((c.ex.reverse.flatMap fun x=>[exWd++[40],9::32::sprS (x.1++32::x.2),[32,9],cmtT,[41]])++((c.rq.reverse.flatMap fun x=>[rqS x])++((if c.g=[] then [] else s3 (goW++32::c.g))++s3 (mdW++32::c.m)))))
end Go.Proofs.Tryz.Ai
end
section
namespace Go.Proofs.Tryz.Ai
open Go Go.AI Go.Proofs
def rmQ (p:List UInt8) (L:List Rq):List Rq:=L.filter fun x=>!isQ p x
def addQ (L:List Rq) (r:Rq):List Rq:=rmQ r.1 L++[r]
def addE (f:Mf) (r:Rq):Int:=fstE [(checkB r.1 r.2.1:Int),if r.1=f.m then 12 else 0,if 200<(addQ f.rq r).length then 14 else 0]
def addR (f:Mf) (r:Rq):Mf:=canonM {f with rq:=addQ f.rq r}
def drpR (f:Mf) (p:List UInt8):Mf:=canonM {f with rq:=rmQ p f.rq}
def drpB (f:Mf) (p:List UInt8):Bool:=decide ((rmQ p f.rq).length<f.rq.length)
def verQ (L:List Rq) (p:List UInt8):Option (List UInt8):=(L.find? (isQ p)).map (·.2.1)
theorem qds {p:List UInt8} {x:Rq}:isQ p x=true↔x.1=p:=by unfold isQ;simp
theorem qdt {p:List UInt8} {L:List Rq} {x:Rq}:x∈rmQ p L↔x∈L∧x.1≠p:=by
 unfold rmQ
 rw[List.mem_filter]
 constructor
 ·rintro⟨h1,h2⟩
  exact⟨h1,fun e=>by rw[qds.2 e] at h2;cases h2⟩
 ·rintro⟨h1,h2⟩
  refine⟨h1,?_⟩
  cases e:isQ p x with
  | false=>rfl
  | true=>exact absurd (qds.1 e) h2
theorem qfd {p:List UInt8} {L:List Rq} (h:∀x∈L,x.1≠p):rmQ p L=L:=by
 unfold rmQ
 rw[List.filter_eq_self]
 intro x hx
 cases e:isQ p x with
 | false=>rfl
 | true=>exact absurd (qds.1 e) (h x hx)
theorem qwa (p:List UInt8) (L:List Rq):(rmQ p L).length≤L.length:=List.length_filter_le _ _
theorem qfe {p:List UInt8} {L M:List Rq} (h:L.Perm M):(rmQ p L).Perm (rmQ p M):=h.filter _
theorem qiz (p:List UInt8) (L M:List Rq):rmQ p (L++M)=rmQ p L++rmQ p M:=List.filter_append ..
theorem qrw {p:List UInt8} {r:Rq} (h:r.1≠p):rmQ p [r]=[r]:=qfd fun x hx=>by rw[List.mem_singleton.1 hx];exact h
theorem qmo {p:List UInt8} {r:Rq} (h:r.1=p):rmQ p [r]=[]:=by
 unfold rmQ
 rw[List.filter_cons,qds.2 h];simp
theorem q03 {p:List UInt8} {L:List Rq} (h:L.Pairwise fun y x=>y.1≠x.1):(rmQ p L).Pairwise fun y x=>y.1≠x.1:=h.filter _
theorem qu7 (p q:List UInt8) (L:List Rq):rmQ p (rmQ q L)=rmQ q (rmQ p L):=by
 unfold rmQ
 rw[List.filter_filter,List.filter_filter]
 congr 1
 funext x
 exact Bool.and_comm _ _
theorem qrx {L:List Rq} {r:Rq} (h:L.Pairwise fun y x=>y.1≠x.1):(addQ L r).Pairwise fun y x=>y.1≠x.1:=qyl (q03 h) fun y hy=>(qdt.1 hy).2
theorem qry {L M:List Rq} (h:L.Perm M) (hd:L.Pairwise fun y x=>y.1≠x.1):isrt rqC L=isrt rqC M:=by
 refine qll TP.rqC (h.trans (qad M).symm) (qrt (R:=fun y x:Rq=>y.1≠x.1) TP.rqC (qdc TP.rqC M) ?_ fun a b k e=>k (TO.bytes.eq _ _ e))
 exact ((h.trans (qad M).symm).pairwise_iff fun k=>Ne.symm k).1 hd
theorem qmp {f g:Mf} (h1:f.m=g.m) (h2:f.g=g.g) (h3:isrt rqC f.rq=isrt rqC g.rq) (h4:isrt modC f.ex=isrt modC g.ex) (h5:isrt rpC f.rp=isrt rpC g.rp) (h6:isrt rtC f.rt=isrt rtC g.rt):canonM f=canonM g:=by
 obtain⟨a1,a2,a3,a4,a5,a6⟩:=f
 obtain⟨b1,b2,b3,b4,b5,b6⟩:=g
 simp only at h1 h2 h3 h4 h5 h6
 simp only[canonM,h1,h2,h3,h4,h5,h6]
theorem qrz {f:Mf} (a:Rq):((addR f a).rq.filter fun x=>x.1==a.1).length=1:=by
 have h:((addR f a).rq.filter fun x=>x.1==a.1).Perm ((addQ f.rq a).filter fun x=>x.1==a.1):=(qad _).filter _
 rw[h.length_eq]
 unfold addQ
 rw[List.filter_append]
 have h1:(rmQ a.1 f.rq).filter (fun x=>x.1==a.1)=[]:=by
  rw[List.filter_eq_nil_iff]
  intro x hx
  simpa using (qdt.1 hx).2
 rw[h1];simp
theorem qyn {f:Mf} (a:Rq):verQ (addR f a).rq a.1=some a.2.1:=by
 have hm:∀x∈(addR f a).rq,x.1=a.1→x=a:=by
  intro x hx e
  have:x∈addQ f.rq a:=(q9 (c:=rqC)).1 hx
  rcases List.mem_append.1 this with h|h
  ·exact absurd e (qdt.1 h).2
  ·exact List.mem_singleton.1 h
 have ha:a∈(addR f a).rq:=(q9 (c:=rqC)).2 (by unfold addQ;simp)
 unfold verQ
 cases h:(addR f a).rq.find? (isQ a.1) with
 | none=>exact absurd (qds.2 rfl) (List.find?_eq_none.1 h a ha)
 | some x=>rw[hm x (List.mem_of_find?_eq_some h) (qds.1 (List.find?_some h))];rfl
theorem qg3 {f:Mf} (a:Rq):drpB (addR f a) a.1=true:=by
 have hp:(addR f a).rq.Perm (addQ f.rq a):=qad _
 have h1:(rmQ a.1 (addR f a).rq).length=(rmQ a.1 (addQ f.rq a)).length:=(qfe hp).length_eq
 have h2:rmQ a.1 (addQ f.rq a)=rmQ a.1 f.rq:=by
  unfold addQ
  rw[qiz,qmo rfl,List.append_nil,qfd fun x hx=>(qdt.1 hx).2]
 unfold drpB
 rw[h1,h2,hp.length_eq]
 unfold addQ
 simp
theorem qu8 {f:Mf} (hd:f.rq.Pairwise fun y x=>y.1≠x.1) {a:Rq} (hn:∀x∈f.rq,x.1≠a.1):drpR (addR f a) a.1=canonM f:=by
 refine qmp rfl rfl ?_ (qdc TO.modC.tp _) (qdc TP.rpC _) (qdc TO.rtC.tp _)
 have h2:rmQ a.1 (addQ f.rq a)=f.rq:=by
  unfold addQ
  rw[qfd hn,qiz,qmo rfl,List.append_nil,qfd hn]
 have hp:(rmQ a.1 (addR f a).rq).Perm f.rq:=by
  have:=qfe (p:=a.1) (qad (c:=rqC) (addQ f.rq a))
  rw[h2] at this;exact this
 exact (qry hp.symm hd).symm
theorem qu9 {f:Mf} (hd:f.rq.Pairwise fun y x=>y.1≠x.1) {a b:Rq} (hab:a.1≠b.1):addR (addR f a) b=addR (addR f b) a:=by
 refine qmp rfl rfl ?_ rfl rfl rfl
 have e1:(addQ (addR f a).rq b).Perm (rmQ b.1 (rmQ a.1 f.rq)++[a]++[b]):=by
  unfold addQ
  refine List.Perm.append_right _ ?_
  have:=qfe (p:=b.1) (qad (c:=rqC) (addQ f.rq a))
  have e:rmQ b.1 (addQ f.rq a)=rmQ b.1 (rmQ a.1 f.rq)++[a]:=by unfold addQ;rw[qiz,qrw hab]
  rw[e] at this;exact this
 have e2:(addQ (addR f b).rq a).Perm (rmQ a.1 (rmQ b.1 f.rq)++[b]++[a]):=by
  unfold addQ
  refine List.Perm.append_right _ ?_
  have:=qfe (p:=a.1) (qad (c:=rqC) (addQ f.rq b))
  have e:rmQ a.1 (addQ f.rq b)=rmQ a.1 (rmQ b.1 f.rq)++[b]:=by unfold addQ;rw[qiz,qrw fun h=>hab h.symm]
  rw[e] at this;exact this
 have e3:(rmQ b.1 (rmQ a.1 f.rq)++[a]++[b]).Perm (rmQ a.1 (rmQ b.1 f.rq)++[b]++[a]):=by
  rw[qu7,List.append_assoc,List.append_assoc]
  exact List.Perm.append_left _ (List.Perm.swap b a [])
 have hd1:(addR f a).rq.Pairwise fun y x=>y.1≠x.1:=((qad (c:=rqC) _).pairwise_iff fun k=>Ne.symm k).2 (qrx hd)
 exact qry (e1.trans (e3.trans e2.symm)) (qrx hd1)
theorem qi0 (L:List Rq) (r:Rq):(addQ L r).length≤L.length+1:=by
 unfold addQ
 have:=qwa r.1 L
 simp;omega
theorem qmq (f:Mf) (r:Rq):(addR f r).rq.length≤f.rq.length+1:=by
 have h:(addR f r).rq.length=(addQ f.rq r).length:=qv _
 have:=qi0 f.rq r
 omega
theorem qi1 {f:Mf} {r:Rq} (hl:f.rq.length≤199):addE f r=fstE [(checkB r.1 r.2.1:Int),if r.1=f.m then 12 else 0,0]:=by
 have:=qi0 f.rq r
 have h:¬200<(addQ f.rq r).length:=by omega
 unfold addE
 rw[if_neg h]
end Go.Proofs.Tryz.Ai
end
