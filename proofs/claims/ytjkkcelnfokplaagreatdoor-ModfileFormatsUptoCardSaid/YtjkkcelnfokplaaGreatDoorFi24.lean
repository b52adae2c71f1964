/- Part 24 of a proof: Go functions are evaluated on abstract values; no conditions beyond those of each theorem. -/
import Derived.Test.YtjkkcelnfokplaaGreatDoorFi15
import Derived.Test.YtjkkcelnfokplaaGreatDoorFi20
set_option linter.all false
set_option maxHeartbeats 16000000
set_option maxRecDepth 4000
section
namespace Go.Proofs.Tryz.Ai
open Go Go.AI Go.Proofs
def orL (l:List Int):Int:=l.foldr orI 0
def intC (x y:Int):Int:=if x<y then -1 else if y<x then 1 else 0
theorem qu4 (a b:Nat):intC a b=natC a b:=by unfold intC natC;simp only[Int.ofNat_lt]
theorem qek (x:Int):orI x 0=x:=by unfold orI;split<;>omega
theorem qnn (l:List Int) (i:Nat) (h:∀x∈l.take i,x=0):orL l=orL (l.drop i):=by
 induction l generalizing i with
 | nil=>simp
 | cons a r ih =>
  cases i with
  | zero=>rfl
  | succ i =>
   simp only[List.take_succ_cons,List.mem_cons,forall_eq_or_imp] at h
   rw[List.drop_succ_cons,← ih i h.2]
   simp[orL,orI,h.1]
theorem qel (l:List Int) (hl:l.length≤2^31) (σ):ev 62 [.sl .sh (l.map (.int .i64))] σ=some (.int .i64 (orL l),σ):=by
 refine qk func62 ntmps62 ?_
 simp (maxSteps:=mS) (disch:=omega) [dT,dF,qh]
 refine qf (I:=fun i:Nat=>⟨[(3,.int .i64 0),(6,.sl .sh (l.map (.int .i64))),(7,.int .i64 l.length),(8,.int .i64 i)],[],σ⟩) (Pr:=fun i=>i≤l.length∧∀x∈l.take i,x=0) (μ:=fun i=>l.length-i) (a:=0) (by simp) (by simp) ?_
 rintro i ⟨hi,hn⟩
 by_cases hc:i<l.length
 ·obtain⟨x,hx⟩:∃x,l[i]=x:=⟨_,rfl⟩
  have hx2:l[i]? = some x:=by rw[← hx];exact List.getElem?_eq_getElem hc
  have w6:=wr1 i (by omega)
  have hd:=qnn l i hn
  rw[List.drop_eq_getElem_cons hc,hx] at hd
  by_cases hq:x=0
  ·simp (maxSteps:=mS) [-getElem?_pos,hc,hx2,hq,w6]
   exact⟨i+1,⟨by omega,take_all (p:=id) hc hn (hx.trans hq)⟩,by omega,by simp⟩
  ·have h2:orL l=x:=by rw[hd];simp[orL,orI,hq]
   simp (maxSteps:=mS) [-getElem?_pos,hc,hx2,hq,h2,results62]
 ·have hi':i=l.length:=by omega
  subst hi'
  have hd:=qnn l _ hn
  simp only[List.drop_length] at hd
  have h2:orL l=0:=hd
  simp (maxSteps:=mS) [h2,results62]
theorem qrk (x y:Int) (σ):ev 128 [.int .i64 x,.int .i64 y] σ=some (.int .i64 (intC x y),σ):=by
 have hn:∀z σ,ev 194 [.int .i64 z] σ=some (.bool false,σ):=by
  intro z σ
  refine qk func194 ntmps194 ?_
  simp (maxSteps:=mS) [results194]
 refine qk func128 ntmps128 ?_
 by_cases h1:x<y
 ·simp (maxSteps:=mS) [hn,h1,intC,results128]
 ·by_cases h2:y<x
  ·simp (maxSteps:=mS) [hn,h1,h2,intC,results128]
  ·simp (maxSteps:=mS) [hn,h1,h2,intC,results128]
theorem qdh (x y:Nat) (σ):ev 128 [.int .i64 x,.int .i64 y] σ=some (.int .i64 (natC x y),σ):=by rw[qrk,qu4]
theorem qcf (a b:List UInt8) (σ):ev 59 [.str a,.str b] σ=some (.int .i64 (bytesC a b),σ):=by
 have h1:∀σ,ev 125 [.str a,.str b] σ=some (.int .i64 (bytesC a b),σ):=fun σ=>by rw[qoq];simp[compareT,qgm]
 refine qk func59 ntmps59 ?_
 simp (maxSteps:=mS) [h1,results59]
theorem qhn (L M:List (List UInt8)) (hL:L.length≤2^31) (hM:M.length≤2^31) (g:Nat) (cap:List AV) (c:List UInt8→List UInt8→Int) (hg:g<100000) (σ:List (List AV))
  (hp:∀a∈L,∀b∈M,ev g (.str a::.str b::cap) σ=some (.int .i64 (c a b),σ)) :
  ev 195 [.sl .sh (L.map .str),.sl .sh (M.map .str),.fn g cap] σ=some (.int .i64 (lexC c L M),σ):=by
 refine qk func195 ntmps195 ?_
 simp (maxSteps:=mS) (disch:=omega) [dT,dF,qh]
 refine qf (I:=fun i:Nat=>⟨[(0,.sl .sh (L.map .str)),(1,.sl .sh (M.map .str)),(2,.fn g cap),(11,.sl .sh (L.map .str)),(12,.int .i64 L.length),(13,.int .i64 i)],[],σ⟩)
  (Pr:=fun i=>i≤L.length∧i≤M.length∧lexC c L M=lexC c (L.drop i) (M.drop i)) (μ:=fun i=>L.length-i) (a:=0) (by simp) (by simp) ?_
 rintro i ⟨hi,hj,hn⟩
 by_cases hc:i<L.length
 ·obtain⟨x,hx⟩:∃x,L[i]=x:=⟨_,rfl⟩
  have hx2:L[i]? = some x:=by rw[← hx];exact List.getElem?_eq_getElem hc
  have w6:=wr1 i (by omega)
  rw[List.drop_eq_getElem_cons hc,hx] at hn
  by_cases hd:i<M.length
  ·obtain⟨y,hy⟩:∃y,M[i]=y:=⟨_,rfl⟩
   have hy2:M[i]? = some y:=by rw[← hy];exact List.getElem?_eq_getElem hd
   have hd':¬M.length≤i:=by omega
   rw[List.drop_eq_getElem_cons hd,hy] at hn
   have hq:=hp x (hx▸List.getElem_mem hc) y (hy▸List.getElem_mem hd)
   by_cases hz:c x y=0
   ·have h2:lexC c L M=lexC c (L.drop (i+1)) (M.drop (i+1)):=by rw[hn];simp[lexC,orI,hz]
    simp (maxSteps:=mS) [-getElem?_pos,hc,hd,hd',hx2,hy2,hg,hq,hz,w6]
    exact⟨i+1,⟨by omega,by omega,h2⟩,by omega,by simp⟩
   ·have h2:lexC c L M=c x y:=by rw[hn];simp[lexC,orI,hz]
    simp (maxSteps:=mS) [-getElem?_pos,hc,hd,hd',hx2,hy2,hg,hq,hz,h2,results195]
  ·have hd':M.length≤i:=by omega
   have h3:M.drop i=[]:=List.drop_of_length_le hd'
   have h2:lexC c L M=1:=by rw[hn,h3];simp[lexC]
   simp (maxSteps:=mS) [-getElem?_pos,hc,hd,hd',hx2,h2,results195]
 ·have hi':i=L.length:=by omega
  subst hi'
  rw[List.drop_length] at hn
  by_cases hd:L.length<M.length
  ·have h2:lexC c L M=-1:=by rw[hn,List.drop_eq_getElem_cons hd];simp[lexC]
   simp (maxSteps:=mS) [hd,h2,results195]
  ·have h2:lexC c L M=0:=by rw[hn,List.drop_of_length_le (by omega)];simp[lexC]
   simp (maxSteps:=mS) [hd,h2,results195]
theorem qu5 (a b:List UInt8) (ha:a.length≤2^31) (hb:b.length≤2^31) (σ):ev 196 [.str a,.str b] σ=some (.int .i64 (idC a b),σ):=by
 have h1:=qgs a ha
 have h2:=qgs b hb
 have h3:=qcf a b
 have h4:=qdh a.length b.length
 have h5:=fun σ=>qel [natC a.length b.length,bytesC a b] (by simp) σ
 have h6:orL [natC a.length b.length,bytesC a b]=orI (natC a.length b.length) (bytesC a b):=by simp only[orL,List.foldr_cons,List.foldr_nil,qek]
 rw[h6] at h5
 simp only[List.map_cons,List.map_nil] at h5
 refine qk func196 ntmps196 ?_
 by_cases d1:allB isD a=true
 ·by_cases d2:allB isD b=true
  ·simp (maxSteps:=mS) [h1,h2,h3,h4,h5,d1,d2,idC,results196]
  ·simp (maxSteps:=mS) [h1,h2,h3,d1,d2,idC,results196]
 ·by_cases d2:allB isD b=true
  ·simp (maxSteps:=mS) [h1,h2,h3,d1,d2,idC,results196]
  ·simp (maxSteps:=mS) [h1,h2,h3,d1,d2,idC,results196]
theorem qyl (a b:List UInt8) (ha:a.length≤2^30) (hb:b.length≤2^30) (σ):ev 129 [.str a,.str b] σ=some (.int .i64 (presC a b),σ):=by
 have hmin:∀l:List UInt8,(if 1<l.length then (1:Int) else l.length)=((min l.length 1:Nat):Int):=by intro l;split<;>omega
 have h1:=qdh (min b.length 1) (min a.length 1)
 have h2:=qdc a ha 46
 have h3:=qdc b hb 46
 have h4:=fun σ=>qhn (splitB 46 a) (splitB 46 b) (by have:=qaq 46 a;omega) (by have:=qaq 46 b;omega) 196 [] idC (by decide) σ
  (fun x hx y hy=>qu5 x y (by have:=qay hx;omega) (by have:=qay hy;omega) σ)
 refine qk func129 ntmps129 ?_
 by_cases e1:a=[]
 ·subst e1
  have h5:presC [] b=natC (min b.length 1) 0:=by simp[presC]
  have h1':∀σ,ev 128 [.int .i64 ((min b.length 1:Nat):Int),.int .i64 0] σ=some (.int .i64 (natC (min b.length 1) 0),σ):=h1
  simp (maxSteps:=mS) [hmin,h1',h5,results129]
 ·by_cases e2:b=[]
  ·subst e2
   have h5:presC a []=natC 0 (min a.length 1):=by simp[presC]
   have h1':∀σ,ev 128 [.int .i64 0,.int .i64 ((min a.length 1:Nat):Int)] σ=some (.int .i64 (natC 0 (min a.length 1)),σ):=h1
   have e1':a.isEmpty=false:=by simpa using e1
   simp (maxSteps:=mS) [e1',hmin,h1',h5,results129]
  ·have h5:presC a b=lexC idC (splitB 46 a) (splitB 46 b):=by simp[presC,e1,e2]
   have e1':a.isEmpty=false:=by simpa using e1
   have e2':b.isEmpty=false:=by simpa using e2
   simp (maxSteps:=mS) [e1',e2',h2,h3,h4,h5,results129]
theorem qgt (a b:List UInt8) (ha:a.length≤2^30) (hb:b.length≤2^30) (σ):ev 63 [.str a,.str b] σ=some (.int .i64 (cmpB a b),σ):=by
 have h1:=qjb a ha
 have h2:=qjb b hb
 have h3:=qcf a b
 refine qk func63 ntmps63 ?_
 cases e1:readB a with
 | none =>
  rw[e1] at h1
  cases e2:readB b with
  | none =>
   rw[e2] at h2
   have h4:cmpB a b=bytesC a b:=by simp[cmpB,e1,e2]
   simp (maxSteps:=mS) [h1,h2,h3,h4,verA,results63]
  | some y =>
   rw[e2] at h2
   have h4:cmpB a b=-1:=by simp[cmpB,e1,e2]
   simp (maxSteps:=mS) [h1,h2,h3,h4,verA,results63]
 | some x =>
  rw[e1] at h1
  cases e2:readB b with
  | none =>
   rw[e2] at h2
   have h4:cmpB a b=1:=by simp[cmpB,e1,e2]
   simp (maxSteps:=mS) [h1,h2,h3,h4,verA,results63]
  | some y =>
   rw[e2] at h2
   have h4:cmpB a b=verC x y:=by simp[cmpB,e1,e2]
   have rx:=qbp e1
   have ry:=qbp e2
   have p1:x.pre.length≤2^30:=by
    have:=rx.len;rw[rx.text] at this;unfold verT at this;split at this
    ·rename_i q;rw[q];simp
    ·simp at this;omega
   have p2:y.pre.length≤2^30:=by
    have:=ry.len;rw[ry.text] at this;unfold verT at this;split at this
    ·rename_i q;rw[q];simp
    ·simp at this;omega
   have h5:=qdh x.ma y.ma
   have h6:=qdh x.mi y.mi
   have h7:=qdh x.pa y.pa
   have h8:=qyl x.pre y.pre p1 p2
   have h9:=fun σ=>qel [natC x.ma y.ma,natC x.mi y.mi,natC x.pa y.pa,presC x.pre y.pre] (by simp) σ
   have ha:orL [natC x.ma y.ma,natC x.mi y.mi,natC x.pa y.pa,presC x.pre y.pre]=verC x y:=by
    unfold verC;simp only[orL,List.foldr_cons,List.foldr_nil,qek]
   rw[ha] at h9
   simp only[List.map_cons,List.map_nil] at h9
   simp (maxSteps:=mS) [h1,h2,h3,h4,h5,h6,h7,h8,h9,verA,results63]
end Go.Proofs.Tryz.Ai
end
section
namespace Go.Proofs.Tryz.Ai
open Go Go.AI Go.Proofs
def modA (m:List UInt8×List UInt8):AV:=.agg [.str m.1,.str m.2]
def modC (a b:List UInt8×List UInt8):Int:=orI (bytesC a.1 b.1) (cmpB a.2 b.2)
theorem TO.modC:TO modC:=TO.bytes.prod TO.cmp
def modQ (m:List UInt8×List UInt8):Prop:=m.1.length≤2^30∧m.2.length≤2^30
theorem qrl (a b:List UInt8×List UInt8) (ha:modQ a) (hb:modQ b) (σ):ev 123 [.agg [.str a.1,.str a.2],.agg [.str b.1,.str b.2]] σ=some (.int .i64 (modC a b),σ):=by
 have h1:=qcf a.1 b.1
 have h2:=qgt a.2 b.2 ha.2 hb.2
 have h3:=qel [bytesC a.1 b.1,cmpB a.2 b.2] (by simp)
 have h4:modC a b=orL [bytesC a.1 b.1,cmpB a.2 b.2]:=by
  unfold modC
  simp only[orL,List.foldr,orI]
  split
  ·split
   ·assumption
   ·rfl
  ·rfl
 simp only[List.map_cons,List.map_nil] at h3
 refine qk func123 ntmps123 ?_
 simp (maxSteps:=mS) [h1,h2,h3,h4,results123]
theorem qrm:CmpOkM 123 modC modQ:=⟨TO.modC.tp,by decide,fun x y hx hy σ=>qrl x y hx hy σ⟩
theorem qno (a b:List UInt8×List UInt8) (ha:modQ a) (hb:modQ b) (σ):ev 68 [.agg [.str a.1,.str a.2],.agg [.str b.1,.str b.2]] σ=some (.bool (decide (modC a b<0)),σ):=by
 have h2:=qcr a.2 b.2 ha.2 hb.2
 have hl:=bytesLess_eq a.1 b.1
 refine qk func68 ntmps68 ?_
 by_cases h:a.1=b.1
 ·have h0:(a.1==b.1)=true:=by simpa using h
  have hm:modC a b=cmpB a.2 b.2:=by unfold modC;rw[h,TO.bytes.refl];simp[orI]
  simp (maxSteps:=mS) [h0,h,h2,hm,results68]
 ·have h0:(a.1==b.1)=false:=by simpa using h
  have hm:modC a b=bytesC a.1 b.1:=by unfold modC orI;rw[if_neg (fun e=>h (TO.bytes.eq _ _ e))]
  simp (maxSteps:=mS) [h0,h,hl,hm,results68]
theorem qmd (l:List (List UInt8×List UInt8)):rowE esM l=flat (l.map modA):=qe6 (fun _=>rfl) l
theorem qu6 (l:List (List UInt8×List UInt8)):els2 true 2 2 (flat (l.map modA)) 0 l.length=some (l.map modA):=qfv (E:=esM) (fun _=>rfl) (fun _=>rfl) (fun _=>rfl) (by decide) l
@[simp] theorem qu7 {l:List (List UInt8×List UInt8)}:allCells 2 (l.map modA)↔True:=⟨fun _=>trivial,fun _ z hz=>by
 obtain⟨w,_,rfl⟩:=List.mem_map.1 hz
 simp[modA,AV.cells]⟩
theorem qow {g:Nat} {c:List UInt8×List UInt8→List UInt8×List UInt8→Int} {Q:List UInt8×List UInt8→Prop} (h:CmpOkM g c Q) (l:List (List UInt8×List UInt8)) (hl:l.length≤2^30) (hQ:∀x∈l,Q x) (σ:List (List AV)) :
  ev 122 [.sl .sh (l.map modA),.fn g []] σ=some (.sl (.ex 52 2) ((isrt c l).map modA),σ):=by
 cases l with
 | nil =>
  have hS:=qdg g
  refine qk func122 ntmps122 ?_
  simp (maxSteps:=mS) [hS,isrt,results122]
 | cons x r =>
  have hS:=qd1 h σ.length (σ++[[]]) (x::r) (r.length+1) hQ (by simp) (by simpa using hl) (by simp)
  rw[qmd,qmd] at hS
  obtain⟨L,hL⟩:∃L,isrt c (x::r)=L:=⟨_,rfl⟩
  have hLl:L.length=r.length+1:=by rw[← hL,qp];simp
  have hE:=qu6 L
  rw[hL] at hS ⊢
  rw[hLl] at hE
  have hlow:lowL σ.length (L.map modA):=by simp[modA]
  have hall:allCells 2 (r.map modA):=by
   intro z hz
   obtain⟨w,_,rfl⟩:=List.mem_map.1 hz
   simp[modA,AV.cells]
  simp[modA] at hS hl
  refine qk func122 ntmps122 ?_
  simp (maxSteps:=mS) [hS,hE,hlow,hall,modA,results122]
  repeat (rw[qo];rotate_left;(· (try unfold most);omega);simp (maxSteps:=mS) [hS,hE,hlow,hall,modA,results122])
theorem qme (l:List (List UInt8×List UInt8)) (hl:l.length≤2^30) (hQ:∀x∈l,modQ x) (σ:List (List AV)):ev 54 [.sl .sh (l.map modA)] σ=some (.sl (.ex 52 2) ((isrt modC l).map modA),σ):=by
 have h:=qow qrm l hl hQ
 refine qk func54 ntmps54 ?_
 simp (maxSteps:=mS) [h,results54]
theorem qmf (a b:List (List UInt8×List UInt8)) (ha:a.length≤2^31) (σ:List (List AV)):ev 40 [.sl .sh (a.map modA),.sl .sh (b.map modA)] σ=some (.bool (decide (a=b)),σ):=by
 refine qk func40 ntmps40 ?_
 by_cases hl:a.length=b.length
 ·simp (maxSteps:=mS) [hl]
  refine qf (I:=fun i:Nat=>⟨[(0,.sl .sh (a.map modA)),(1,.sl .sh (b.map modA)),(5,.int .i64 i)],[],σ⟩) (Pr:=fun i=>i≤a.length∧a.take i=b.take i) (μ:=fun i=>a.length-i) (a:=0) (by simp) (by simp) ?_
  rintro i ⟨i1,i2⟩
  by_cases hc:i<a.length
  ·obtain⟨x,hx⟩:=getS hc
   obtain⟨y,hy⟩:∃z,b[i]? = some z:=⟨_,List.getElem?_eq_getElem (by omega)⟩
   have hcb:i<b.length:=by omega
   have w1:=wr1 i (by omega)
   have hx':(a.map modA)[i]? = some (.agg [.str x.1,.str x.2]):=by rw[List.getElem?_map,hx];rfl
   have hy':(b.map modA)[i]? = some (.agg [.str y.1,.str y.2]):=by rw[List.getElem?_map,hy];rfl
   by_cases hxy:x=y
   ·subst hxy
    simp (maxSteps:=mS) [-getElem?_pos,-List.getElem?_map,hcb,hl,hx',hy',w1]
    exact⟨i+1,⟨by omega,by rw[List.take_add_one,List.take_add_one,hx,hy,i2]⟩,by omega,by simp⟩
   ·have hab:¬a=b:=by
     intro e
     subst e
     rw[hx] at hy
     exact hxy (by simpa using hy)
    have hxy':(x.1==y.1&&x.2==y.2)=false:=by
     rw[Bool.eq_false_iff];intro e
     simp at e
     exact hxy (Prod.ext e.1 e.2)
    simp (maxSteps:=mS) [-getElem?_pos,-List.getElem?_map,hcb,hl,hx',hy',hxy',hab,results40]
  ·have hab:a=b:=by
    rw[List.take_of_length_le (by omega),List.take_of_length_le (by omega)] at i2
    exact i2
   have hcb:¬i<b.length:=by omega
   subst hab
   simp (maxSteps:=mS) [hcb,results40]
 ·have hab:¬a=b:=fun e=>hl (by rw[e])
  simp (maxSteps:=mS) [hl,hab,results40]
theorem qkw (l:List (List UInt8×List UInt8)) (hl:l.length≤2^30) (hQ:∀x∈l,modQ x) (σ:List (List AV)):ev 67 [.sl .sh (l.map modA)] σ=some (.sl (.ex 52 2) ((isrt modC l).map modA),σ):=by
 have tp:=TO.modC.tp
 refine qk func67 ntmps67 ?_
 simp (maxSteps:=mS) [-Prod.forall]
 refine qf (I:=fun k:Nat=>⟨[(0,.sl .sh (l.map modA)),(3,.sl (.ex 52 2) ((isrt modC (l.take k)).map modA)),(4,.int .i64 k)],[],σ⟩) (Pr:=fun k=>k≤l.length) (μ:=fun k=>l.length-k) (a:=0) (by simp[isrt]) (by simp) ?_
 intro k hk
 by_cases hc:k<l.length
 ·obtain⟨x,hx⟩:=getS hc
  have hQx:=hQ x (List.mem_of_getElem? hx)
  have hS:isrt modC (l.take (k+1))=mrg modC (isrt modC (l.take k)) [x]:=by
   rw[List.take_add_one,hx];exact qda tp _ _
  have hSs:=qbe tp (l.take k)
  have hSl:(isrt modC (l.take k)).length=k:=by rw[qp];simp;omega
  have hSQ:∀y∈isrt modC (l.take k),modQ y:=fun y hy=>hQ y (List.mem_of_mem_take (qac.1 hy))
  generalize isrt modC (l.take k)=S at *
  simp (maxSteps:=mS) [-Prod.forall,hc,hSl]
  refine qf (I:=fun u:Nat=>⟨[(0,.sl .sh (l.map modA)),(3,.sl (.ex 52 2) (S.map modA)),(4,.int .i64 k),(5,.int .i64 u)],[],σ⟩) (Pr:=fun u=>u≤k∧∀v∈S.drop u,modC x v<0) (μ:=fun u=>u) (a:=k) (by simp) (by simp[← hSl]) ?_
  rintro u ⟨hu,hV⟩
  have hfin:(∀y,(S.take u).getLast? = some y→¬modC x y<0)→isrt modC (l.take (k+1))=S.take u++x::S.drop u:=by
   intro hq
   rw[hS]
   have:S=S.take u++S.drop u:=(List.take_append_drop u S).symm
   conv=>lhs;rw[this]
   refine qe3 (fun y hy=>?_) hV
   obtain⟨i,hi,hy⟩:=qan hy
   obtain⟨z,hz⟩:∃z,S[u-1]? = some z:=⟨_,List.getElem?_eq_getElem (by omega)⟩
   have h1:=hq z (by
    obtain⟨w,rfl⟩:∃w,u=w+1:=⟨u-1,by omega⟩
    rw[List.take_add_one,show S[w]? = some z from hz];simp)
   exact tp.nlt.2 (tp.trans _ _ _ (qbj tp hSs (by omega) hy hz) (tp.nlt.1 h1))
  have w1:=wr1 k (by omega)
  have ku:u≤S.length:=by omega
  cases u with
  | zero =>
   have hf:=hfin (by simp)
   simp (maxSteps:=mS) [-Prod.forall,-qb]
   refine qg [] _ (k:=?_)
   repeat (first|refine qd _ (hs:=by simp (maxSteps:=mS) [];exact rfl) (k:=?_)|refine qaj (by rfl) (by rfl) ?_)
   refine qc ?_
   simp (maxSteps:=mS) [-getElem?_pos,hx,w1,modA]
   repeat (rw[qo];rotate_left;(· (try unfold most);omega);simp (maxSteps:=mS) [-getElem?_pos,hx,w1,modA])
   exact⟨k+1,by omega,by omega,by rw[hf];simp[modA],by simp⟩
  | succ w =>
   obtain⟨y,hy⟩:∃y,S[w]? = some y:=⟨_,List.getElem?_eq_getElem (by omega)⟩
   have hQy:=hSQ y (List.mem_of_getElem? hy)
   have hcmp:=qno x y hQx hQy
   have hfl:=tp.flip y x
   have w2:IntKind.i64.wrap ((w:Int)+1-1)=(w:Int):=by rw[qh (by omega)];omega
   have p4:w<S.length:=by omega
   have p5:(0:Int)<(w:Int)+1:=by omega
   obtain⟨v,hv⟩:∃v,w+1=v:=⟨_,rfl⟩
   have hv2:(w:Int)+1=(v:Int):=by omega
   have w3:IntKind.i64.wrap ((v:Int)-1)=(w:Int):=by rw[qh (by omega)];omega
   have p6:0<v:=by omega
   have kv:v≤S.length:=by omega
   simp (maxSteps:=mS) [-Prod.forall,-qb,hv2]
   refine qg [] _ (k:=?_)
   repeat (first|refine qd _ (hs:=by simp (maxSteps:=mS) [-getElem?_pos,hc,hx,hy,w3,p4,p6,hcmp,modA];exact rfl) (k:=?_)|refine qaj (by rfl) (by rfl) ?_)
   refine qc ?_
   by_cases hlt:modC x y<0
   ·have hV2:∀v∈S.drop w,modC x v<0:=by
     have hd:S.drop w=y::S.drop (w+1):=by rw[List.drop_eq_getElem_cons (by omega)];congr 1;exact (List.getElem?_eq_some_iff.1 hy).2
     rw[hd]
     intro v hv
     rcases List.mem_cons.1 hv with rfl|hv
     ·exact hlt
     ·exact hV v hv
    have hgt:modC x y<0:=hlt
    simp (maxSteps:=mS) [-Prod.forall,hgt,w3]
    exact⟨by omega,hV2⟩
   ·have hf:=hfin (fun z hz=>by
     have:(S.take (w+1)).getLast? = some y:=by rw[List.take_add_one,hy];simp
     rw[this] at hz;injection hz with hz;subst hz;exact hlt)
    have hgt:¬modC x y<0:=hlt
    rw[hv] at hf
    have hT:List.take v (S.map modA)=(S.take v).map modA:=(List.map_take ..).symm
    have hD:List.drop v (S.map modA)=(S.drop v).map modA:=(List.map_drop ..).symm
    have lT:(S.take v).length=v:=by simp;omega
    have lD:(S.drop v).length=S.length-v:=by simp
    clear hfin hV hlt hS
    generalize S.take v=A at *
    generalize S.drop v=B at *
    simp (maxSteps:=mS) [-getElem?_pos,hgt,hx,w1,kv,hT,hD,modA]
    repeat (rw[qo];rotate_left;(· (try unfold most);omega);simp (maxSteps:=mS) [-getElem?_pos,hgt,hx,w1,kv,hT,hD,modA])
    exact⟨k+1,by omega,by omega,by rw[hf];simp[modA],by simp⟩
 ·have hk':l.take k=l:=List.take_of_length_le (by omega)
  rw[hk']
  simp (maxSteps:=mS) [-Prod.forall,hc,results67]
end Go.Proofs.Tryz.Ai
end
section
namespace Go.AI
section
variable {P:Program} {h:Hint} {C:Oracle}
theorem qkx {ops:List Oper} {d:Bool} {st:St} {F:St→St} {K:Ex→St→Prop} (st2:St) (e:bnd (regionA P h C ops d st) (fun st=>some (F st))=some st2) (k:K .normal st2):Post (bnd (regionA P h C ops d st) fun st=>some (Ex.normal,F st)) K:=by
 obtain⟨s,h1,h2⟩:=qa e
 injection h2 with h2
 exact⟨_,_,by rw[h1];rfl,by rw[h2];exact k⟩
theorem qe7 {ops:List Oper} {st:St} {F:St→St} {st2:St} (ds:List Nat) (st0:St) (e:allocDs ops=ds) (e0:startD ds st=st0)
  (k:PostD (runD P h C ds ops ops st0) fun s=>F s=st2):bnd (regionA P h C ops true st) (fun st=>some (F st))=some st2:=by
 obtain⟨s,h1,h2⟩:=k
 rw[regionA,if_pos rfl,e,e0,h1]
 show some (F s)=some st2
 rw[h2]
end
end Go.AI
namespace Go.Proofs.Tryz.Ai
open Go Go.AI Go.Proofs
theorem qwq (e:Int) (σ):ev 12 [.int .i64 e] σ=some (.int .i64 e,σ):=by
 refine q9 rfl Tryz.func12 rfl (by simp[Tryz.ntmps12]) (by kernel_rfl) (by kernel_rfl) ?_
 simp (maxSteps:=4000000) [Tryz.results12]
theorem qa8 (b:Bool) (e:Int) (σ):ev 75 [.bool b,.int .i64 e] σ=some (.int .i64 (if b then e else 0),σ):=by
 refine q9 rfl Tryz.func75 rfl (by simp[Tryz.ntmps75]) (by kernel_rfl) (by kernel_rfl) ?_
 cases b<;>simp (maxSteps:=4000000) [Tryz.results75]
def fstE (l:List Int):Int:=l.foldr orI 0
theorem fstE_drop (l:List Int) (i:Nat) (h:∀x∈l.take i,x=0):fstE l=fstE (l.drop i):=by
 induction l generalizing i with
 | nil=>simp
 | cons a r ih =>
  cases i with
  | zero=>rfl
  | succ i =>
   simp only[List.take_succ_cons,List.mem_cons,forall_eq_or_imp] at h
   rw[List.drop_succ_cons,← ih i h.2]
   simp[fstE,orI,h.1]
theorem qa7 (l:List Int) (hl:l.length≤2^30) (σ):ev 73 [.sl .sh (l.map (.int .i64))] σ=some (.int .i64 (fstE l),σ):=by
 refine q9 rfl Tryz.func73 rfl (by simp[Tryz.ntmps73]) (by kernel_rfl) (by kernel_rfl) ?_
 simp (maxSteps:=4000000) []
 refine qf (I:=fun i:Nat=>⟨[(5,.sl .sh (l.map (.int .i64))),(6,.int .i64 l.length),(7,.int .i64 i)],[],σ⟩) (Pr:=fun i=>i≤l.length∧∀x∈l.take i,x=0) (μ:=fun i=>l.length-i) (a:=0) (by simp) (by simp) ?_
 rintro i ⟨hi,hn⟩
 by_cases hc:i<l.length
 ·obtain⟨x,hx⟩:∃x,l[i]=x:=⟨_,rfl⟩
  have hx2:l[i]? = some x:=by rw[← hx];exact List.getElem?_eq_getElem hc
  have w6:IntKind.i64.wrap ((i:Int)+1)=(i:Int)+1:=qh (by omega)
  have hd:=fstE_drop l i hn
  rw[List.drop_eq_getElem_cons hc,hx] at hd
  by_cases hq:x=0
  ·simp (maxSteps:=4000000) [-getElem?_pos,hc,hx2,hq,w6]
   exact⟨i+1,⟨by omega,take_all (p:=id) hc hn (hx.trans hq)⟩,by omega,by simp⟩
  ·have h2:fstE l=x:=by rw[hd];simp[fstE,orI,hq]
   simp (maxSteps:=4000000) [-getElem?_pos,hc,hx2,hq,h2,Tryz.results73]
 ·have hi':i=l.length:=by omega
  subst hi'
  have hd:=fstE_drop l _ hn
  simp only[List.drop_length] at hd
  have h2:fstE l=0:=hd
  simp (maxSteps:=4000000) [h2,Tryz.results73]
def fixA {α:Type} (K:List α) (p:α→Bool):Int:=if K.any p then ((K.findIdx p:Nat):Int) else -1
theorem fixA_nn {α:Type} (K:List α) (p:α→Bool):decide (0≤fixA K p)=K.any p:=by
 unfold fixA
 cases K.any p<;>simp
theorem fixA_at {α:Type} {K:List α} {p:α→Bool} {i:Nat} {k:α} (hk:K[i]? = some k) (hn:(K.take i).any p=false) (hp:p k=true):fixA K p=(i:Int):=by
 have hi:i<K.length:=(List.getElem?_eq_some_iff.1 hk).1
 have hki:K[i]=k:=(List.getElem?_eq_some_iff.1 hk).2
 unfold fixA
 rw[if_pos (List.any_eq_true.2 ⟨k,List.mem_of_getElem? hk,hp⟩)]
 congr 1
 rw[List.findIdx_eq hi]
 refine⟨by rw[hki];exact hp,fun j hj=>?_⟩
 cases hq:p K[j] with
 | false=>rfl
 | true =>
  have:(K.take i).any p=true:=List.any_eq_true.2 ⟨K[j],by rw[List.mem_take_iff_getElem];exact⟨j,by omega,rfl⟩,hq⟩
  rw[hn] at this;cases this
theorem fixA_none {α:Type} {K:List α} {p:α→Bool} (h:K.any p=false):fixA K p=-1:=by unfold fixA;rw[h];simp
theorem qad {α:Type} {K:List α} {p:α→Bool} {i:Nat} {k:α} (hk:K[i]? = some k) (hn:(K.take i).any p=false):(K.take (i+1)).any p=p k:=by
 rw[List.take_add_one,hk,List.any_append,hn];simp
def rqF (x:Rq):AV:=.agg [.str x.1,.str x.2.1,.bool x.2.2]
theorem rqFx (x:Rq):rqF x=.agg [.str x.1,.str x.2.1,.bool x.2.2]:=rfl
def rpF (x:Rp):AV:=.agg [.str x.1.1,.str x.1.2,.str x.2.1,.str x.2.2]
theorem rpFx (x:Rp):rpF x=.agg [.str x.1.1,.str x.1.2,.str x.2.1,.str x.2.2]:=rfl
def rtF (x:Rt):AV:=.agg [.str x.1,.str x.2]
theorem rtFx (x:Rt):rtF x=.agg [.str x.1,.str x.2]:=rfl
theorem modAx (x:List UInt8×List UInt8):modA x=.agg [.str x.1,.str x.2]:=rfl
@[simp] theorem allCellsQ {l:List (Rq)}:allCells 3 (l.map rqF)↔True:=⟨fun _=>trivial,fun _ y hy=>by obtain⟨z,_,rfl⟩:=List.mem_map.1 hy;simp[rqF,AV.cells]⟩
@[simp] theorem lowQ {n:Nat} {x:Rq}:low n (rqF x)↔True:=by simp[rqF,low,lowL]
theorem qeo (K:List (Rq)) (hK:K.length≤2^30) (g:FuncId) (hg:g<100000) (cap:List AV) (hcap:args cap=some cap) (p:Rq→Bool) (σ:List (List AV)) (h:∀k∈K,ev g (rqF k::cap) σ=some (.bool (p k),σ)) :
  ev 70 [.sl .sh (K.map rqF),.fn g cap] σ=some (.int .i64 (fixA K p),σ):=by
 refine q9 rfl Tryz.func70 rfl (by simp[Tryz.ntmps70]) (by kernel_rfl) (by kernel_rfl) ?_
 simp (maxSteps:=4000000) []
 refine qf (I:=fun i:Nat=>⟨[(0,.sl .sh (K.map rqF)),(1,.fn g cap),(7,.int .i64 K.length),(8,.int .i64 i)],[],σ⟩) (Pr:=fun i=>i≤K.length∧(K.take i).any p=false) (μ:=fun i=>K.length-i) (a:=0) (by simp) (by simp) ?_
 rintro i ⟨hi,hn⟩
 have w1:IntKind.i64.wrap ((i:Int)+1)=(i:Int)+1:=qh (by omega)
 by_cases hc:i<K.length
 ·obtain⟨k,hk⟩:∃k,K[i]? = some k:=⟨_,List.getElem?_eq_getElem hc⟩
  have hv:=h k (List.mem_of_getElem? hk)
  have hin:=qad hk hn
  have hfx:=fixA_at hk hn
  obtain⟨k1,k2,k3⟩:=k
  cases hp:p (k1,k2,k3) with
  | true =>
   have hfx:=hfx hp
   rw[hp] at hv
   simp only[rqFx] at hv
   simp (maxSteps:=4000000) [-getElem?_pos,hc,hk,hg,hcap,rqFx,hv,hfx,Tryz.results70]
  | false =>
   rw[hp] at hv hin
   simp only[rqFx] at hv
   simp (maxSteps:=4000000) [-getElem?_pos,-Prod.exists,-Prod.forall,hc,hk,hg,hcap,rqFx,hv,w1]
   exact⟨i+1,⟨by omega,by simpa using hin⟩,by omega,by simp⟩
 ·rw[List.take_of_length_le (by omega)] at hn
  have hfx:fixA K p=-1:=fixA_none hn
  simp (maxSteps:=4000000) [hc,hfx,Tryz.results70]
theorem qbk (K:List (Rq)) (hK:K.length≤2^30) (g:FuncId) (hg:g<100000) (cap:List AV) (hcap:args cap=some cap) (p:Rq→Bool) (σ:List (List AV)) (h:∀k∈K,ev g (rqF k::cap) σ=some (.bool (p k),σ)) :
  ev 76 [.sl .sh (K.map rqF),.fn g cap] σ=some (.bool (K.any p),σ):=by
 have h1:=qeo K hK g hg cap hcap p σ h
 have h2:=fixA_nn K p
 refine q9 rfl Tryz.func76 rfl (by simp[Tryz.ntmps76]) (by kernel_rfl) (by kernel_rfl) ?_
 simp (maxSteps:=4000000) [hcap,h1,h2,Tryz.results76]
@[simp] theorem lowM {n:Nat} {x:List UInt8×List UInt8}:low n (modA x)↔True:=by simp[modA,low,lowL]
theorem qjd (K:List (List UInt8×List UInt8)) (hK:K.length≤2^30) (g:FuncId) (hg:g<100000) (cap:List AV) (hcap:args cap=some cap) (p:List UInt8×List UInt8→Bool) (σ:List (List AV)) (h:∀k∈K,ev g (modA k::cap) σ=some (.bool (p k),σ)) :
  ev 213 [.sl .sh (K.map modA),.fn g cap] σ=some (.int .i64 (fixA K p),σ):=by
 refine q9 rfl Tryz.func213 rfl (by simp[Tryz.ntmps213]) (by kernel_rfl) (by kernel_rfl) ?_
 simp (maxSteps:=4000000) []
 refine qf (I:=fun i:Nat=>⟨[(0,.sl .sh (K.map modA)),(1,.fn g cap),(7,.int .i64 K.length),(8,.int .i64 i)],[],σ⟩) (Pr:=fun i=>i≤K.length∧(K.take i).any p=false) (μ:=fun i=>K.length-i) (a:=0) (by simp) (by simp) ?_
 rintro i ⟨hi,hn⟩
 have w1:IntKind.i64.wrap ((i:Int)+1)=(i:Int)+1:=qh (by omega)
 by_cases hc:i<K.length
 ·obtain⟨k,hk⟩:∃k,K[i]? = some k:=⟨_,List.getElem?_eq_getElem hc⟩
  have hv:=h k (List.mem_of_getElem? hk)
  have hin:=qad hk hn
  have hfx:=fixA_at hk hn
  obtain⟨k1,k2⟩:=k
  cases hp:p (k1,k2) with
  | true =>
   have hfx:=hfx hp
   rw[hp] at hv
   simp only[modAx] at hv
   simp (maxSteps:=4000000) [-getElem?_pos,hc,hk,hg,hcap,modAx,hv,hfx,Tryz.results213]
  | false =>
   rw[hp] at hv hin
   simp only[modAx] at hv
   simp (maxSteps:=4000000) [-getElem?_pos,-Prod.exists,-Prod.forall,hc,hk,hg,hcap,modAx,hv,w1]
   exact⟨i+1,⟨by omega,by simpa using hin⟩,by omega,by simp⟩
 ·rw[List.take_of_length_le (by omega)] at hn
  have hfx:fixA K p=-1:=fixA_none hn
  simp (maxSteps:=4000000) [hc,hfx,Tryz.results213]
theorem qfl (K:List (List UInt8×List UInt8)) (hK:K.length≤2^30) (g:FuncId) (hg:g<100000) (cap:List AV) (hcap:args cap=some cap) (p:List UInt8×List UInt8→Bool) (σ:List (List AV)) (h:∀k∈K,ev g (modA k::cap) σ=some (.bool (p k),σ)) :
  ev 148 [.sl .sh (K.map modA),.fn g cap] σ=some (.bool (K.any p),σ):=by
 have h1:=qjd K hK g hg cap hcap p σ h
 have h2:=fixA_nn K p
 refine q9 rfl Tryz.func148 rfl (by simp[Tryz.ntmps148]) (by kernel_rfl) (by kernel_rfl) ?_
 simp (maxSteps:=4000000) [hcap,h1,h2,Tryz.results148]
@[simp] theorem allCellsP {l:List (Rp)}:allCells 4 (l.map rpF)↔True:=⟨fun _=>trivial,fun _ y hy=>by obtain⟨z,_,rfl⟩:=List.mem_map.1 hy;simp[rpF,AV.cells]⟩
@[simp] theorem lowP {n:Nat} {x:Rp}:low n (rpF x)↔True:=by simp[rpF,low,lowL]
theorem qcs (K:List (Rp)) (hK:K.length≤2^30) (g:FuncId) (hg:g<100000) (cap:List AV) (hcap:args cap=some cap) (p:Rp→Bool) (σ:List (List AV)) (h:∀k∈K,ev g (rpF k::cap) σ=some (.bool (p k),σ)) :
  ev 92 [.sl .sh (K.map rpF),.fn g cap] σ=some (.int .i64 (fixA K p),σ):=by
 refine q9 rfl Tryz.func92 rfl (by simp[Tryz.ntmps92]) (by kernel_rfl) (by kernel_rfl) ?_
 simp (maxSteps:=4000000) []
 refine qf (I:=fun i:Nat=>⟨[(0,.sl .sh (K.map rpF)),(1,.fn g cap),(7,.int .i64 K.length),(8,.int .i64 i)],[],σ⟩) (Pr:=fun i=>i≤K.length∧(K.take i).any p=false) (μ:=fun i=>K.length-i) (a:=0) (by simp) (by simp) ?_
 rintro i ⟨hi,hn⟩
 have w1:IntKind.i64.wrap ((i:Int)+1)=(i:Int)+1:=qh (by omega)
 by_cases hc:i<K.length
 ·obtain⟨k,hk⟩:∃k,K[i]? = some k:=⟨_,List.getElem?_eq_getElem hc⟩
  have hv:=h k (List.mem_of_getElem? hk)
  have hin:=qad hk hn
  have hfx:=fixA_at hk hn
  obtain⟨⟨k1,k2⟩,k3,k4⟩:=k
  cases hp:p ((k1,k2),k3,k4) with
  | true =>
   have hfx:=hfx hp
   rw[hp] at hv
   simp only[rpFx] at hv
   simp (maxSteps:=4000000) [-getElem?_pos,hc,hk,hg,hcap,rpFx,hv,hfx,Tryz.results92]
  | false =>
   rw[hp] at hv hin
   simp only[rpFx] at hv
   simp (maxSteps:=4000000) [-getElem?_pos,-Prod.exists,-Prod.forall,hc,hk,hg,hcap,rpFx,hv,w1]
   exact⟨i+1,⟨by omega,by simpa using hin⟩,by omega,by simp⟩
 ·rw[List.take_of_length_le (by omega)] at hn
  have hfx:fixA K p=-1:=fixA_none hn
  simp (maxSteps:=4000000) [hc,hfx,Tryz.results92]
theorem qfm (K:List (Rp)) (hK:K.length≤2^30) (g:FuncId) (hg:g<100000) (cap:List AV) (hcap:args cap=some cap) (p:Rp→Bool) (σ:List (List AV)) (h:∀k∈K,ev g (rpF k::cap) σ=some (.bool (p k),σ)) :
  ev 150 [.sl .sh (K.map rpF),.fn g cap] σ=some (.bool (K.any p),σ):=by
 have h1:=qcs K hK g hg cap hcap p σ h
 have h2:=fixA_nn K p
 refine q9 rfl Tryz.func150 rfl (by simp[Tryz.ntmps150]) (by kernel_rfl) (by kernel_rfl) ?_
 simp (maxSteps:=4000000) [hcap,h1,h2,Tryz.results150]
@[simp] theorem allCellsT {l:List (Rt)}:allCells 2 (l.map rtF)↔True:=⟨fun _=>trivial,fun _ y hy=>by obtain⟨z,_,rfl⟩:=List.mem_map.1 hy;simp[rtF,AV.cells]⟩
@[simp] theorem lowT {n:Nat} {x:Rt}:low n (rtF x)↔True:=by simp[rtF,low,lowL]
theorem qje (K:List (Rt)) (hK:K.length≤2^30) (g:FuncId) (hg:g<100000) (cap:List AV) (hcap:args cap=some cap) (p:Rt→Bool) (σ:List (List AV)) (h:∀k∈K,ev g (rtF k::cap) σ=some (.bool (p k),σ)) :
  ev 214 [.sl .sh (K.map rtF),.fn g cap] σ=some (.int .i64 (fixA K p),σ):=by
 refine q9 rfl Tryz.func214 rfl (by simp[Tryz.ntmps214]) (by kernel_rfl) (by kernel_rfl) ?_
 simp (maxSteps:=4000000) []
 refine qf (I:=fun i:Nat=>⟨[(0,.sl .sh (K.map rtF)),(1,.fn g cap),(7,.int .i64 K.length),(8,.int .i64 i)],[],σ⟩) (Pr:=fun i=>i≤K.length∧(K.take i).any p=false) (μ:=fun i=>K.length-i) (a:=0) (by simp) (by simp) ?_
 rintro i ⟨hi,hn⟩
 have w1:IntKind.i64.wrap ((i:Int)+1)=(i:Int)+1:=qh (by omega)
 by_cases hc:i<K.length
 ·obtain⟨k,hk⟩:∃k,K[i]? = some k:=⟨_,List.getElem?_eq_getElem hc⟩
  have hv:=h k (List.mem_of_getElem? hk)
  have hin:=qad hk hn
  have hfx:=fixA_at hk hn
  obtain⟨k1,k2⟩:=k
  cases hp:p (k1,k2) with
  | true =>
   have hfx:=hfx hp
   rw[hp] at hv
   simp only[rtFx] at hv
   simp (maxSteps:=4000000) [-getElem?_pos,hc,hk,hg,hcap,rtFx,hv,hfx,Tryz.results214]
  | false =>
   rw[hp] at hv hin
   simp only[rtFx] at hv
   simp (maxSteps:=4000000) [-getElem?_pos,-Prod.exists,-Prod.forall,hc,hk,hg,hcap,rtFx,hv,w1]
   exact⟨i+1,⟨by omega,by simpa using hin⟩,by omega,by simp⟩
 ·rw[List.take_of_length_le (by omega)] at hn
  have hfx:fixA K p=-1:=fixA_none hn
  simp (maxSteps:=4000000) [hc,hfx,Tryz.results214]
theorem qfn (K:List (Rt)) (hK:K.length≤2^30) (g:FuncId) (hg:g<100000) (cap:List AV) (hcap:args cap=some cap) (p:Rt→Bool) (σ:List (List AV)) (h:∀k∈K,ev g (rtF k::cap) σ=some (.bool (p k),σ)) :
  ev 151 [.sl .sh (K.map rtF),.fn g cap] σ=some (.bool (K.any p),σ):=by
 have h1:=qje K hK g hg cap hcap p σ h
 have h2:=fixA_nn K p
 refine q9 rfl Tryz.func151 rfl (by simp[Tryz.ntmps151]) (by kernel_rfl) (by kernel_rfl) ?_
 simp (maxSteps:=4000000) [hcap,h1,h2,Tryz.results151]
def isQ (p:List UInt8) (x:Rq):Bool:=x.1==p
theorem qep (p:List UInt8) (σ:List (List AV)):ev 71 [.str p] σ=some (.fn 132 [.gp σ.length 0 (some (9,1))],σ++[[.str p]]):=by
 refine q9 rfl Tryz.func71 rfl (by simp[Tryz.ntmps71]) (by kernel_rfl) (by kernel_rfl) ?_
 simp (maxSteps:=4000000) [Tryz.results71]
theorem qdv (p:List UInt8) (b:Nat) (sh:Option (TypeId×Nat)) (x:Rq) (σ:List (List AV)) (hb:σ[b]? = some [.str p]):ev 132 [rqF x,.gp b 0 sh] σ=some (.bool (isQ p x),σ):=by
 obtain⟨x1,x2,x3⟩:=x
 unfold isQ
 simp only[rqFx]
 refine q9 rfl Tryz.func132 rfl (by simp[Tryz.ntmps132]) (by kernel_rfl) (by kernel_rfl) ?_
 simp (maxSteps:=4000000) [-getElem?_pos,hb,Tryz.results132]
def isM (m x:List UInt8×List UInt8):Bool:=x.1==m.1&&x.2==m.2
theorem qrn (m:List UInt8×List UInt8) (σ:List (List AV)):ev 79 [modA m] σ=some (.fn 149 [.gp σ.length 0 (some (52,2))],σ++[[.str m.1,.str m.2]]):=by
 rw[modAx]
 refine q9 rfl Tryz.func79 rfl (by simp[Tryz.ntmps79]) (by kernel_rfl) (by kernel_rfl) ?_
 simp (maxSteps:=4000000) [Tryz.results79]
theorem qro (m:Rt) (σ:List (List AV)):ev 85 [rtF m] σ=some (.fn 152 [.gp σ.length 0 (some (50,2))],σ++[[.str m.1,.str m.2]]):=by
 rw[rtFx]
 refine q9 rfl Tryz.func85 rfl (by simp[Tryz.ntmps85]) (by kernel_rfl) (by kernel_rfl) ?_
 simp (maxSteps:=4000000) [Tryz.results85]
theorem qjf (m:List UInt8×List UInt8) (σ:List (List AV)):ev 93 [modA m] σ=some (.fn 160 [.gp σ.length 0 (some (52,2))],σ++[[.str m.1,.str m.2]]):=by
 rw[modAx]
 refine q9 rfl Tryz.func93 rfl (by simp[Tryz.ntmps93]) (by kernel_rfl) (by kernel_rfl) ?_
 simp (maxSteps:=4000000) [Tryz.results93]
theorem qox (x:Rp) (σ:List (List AV)):ev 82 [rpF x] σ=some (.fn 160 [.gp σ.length 0 (some (52,2))],σ++[[.str x.1.1,.str x.1.2]]):=by
 have h:=qjf x.1
 obtain⟨⟨x1,x2⟩,x3,x4⟩:=x
 simp only[modAx] at h
 rw[rpFx]
 refine q9 rfl Tryz.func82 rfl (by simp[Tryz.ntmps82]) (by kernel_rfl) (by kernel_rfl) ?_
 simp (maxSteps:=4000000) [h,Tryz.results82]
theorem qoy (m:List UInt8×List UInt8) (b:Nat) (sh:Option (TypeId×Nat)) (x:List UInt8×List UInt8) (σ:List (List AV)) (hb:σ[b]? = some [.str m.1,.str m.2]):ev 149 [modA x,.gp b 0 sh] σ=some (.bool (isM m x),σ):=by
 obtain⟨x1,x2⟩:=x
 obtain⟨m1,m2⟩:=m
 unfold isM
 simp only[modAx] at hb ⊢
 refine q9 rfl Tryz.func149 rfl (by simp[Tryz.ntmps149]) (by kernel_rfl) (by kernel_rfl) ?_
 by_cases hc:x1=m1
 ·have hc':(x1==m1)=true:=by simpa using hc
  by_cases hq:x2=m2
  ·have hq':(x2==m2)=true:=by simpa using hq
   simp (maxSteps:=4000000) [-getElem?_pos,hb,hc',hq',Tryz.results149]
  ·have hq':(x2==m2)=false:=by simpa using hq
   simp (maxSteps:=4000000) [-getElem?_pos,hb,hc',hq',Tryz.results149]
 ·have hc':(x1==m1)=false:=by simpa using hc
  simp (maxSteps:=4000000) [-getElem?_pos,hb,hc',Tryz.results149]
theorem qoz (m:List UInt8×List UInt8) (b:Nat) (sh:Option (TypeId×Nat)) (x:Rt) (σ:List (List AV)) (hb:σ[b]? = some [.str m.1,.str m.2]):ev 152 [rtF x,.gp b 0 sh] σ=some (.bool (isM m x),σ):=by
 obtain⟨x1,x2⟩:=x
 obtain⟨m1,m2⟩:=m
 unfold isM
 simp only[rtFx] at hb ⊢
 refine q9 rfl Tryz.func152 rfl (by simp[Tryz.ntmps152]) (by kernel_rfl) (by kernel_rfl) ?_
 by_cases hc:x1=m1
 ·have hc':(x1==m1)=true:=by simpa using hc
  by_cases hq:x2=m2
  ·have hq':(x2==m2)=true:=by simpa using hq
   simp (maxSteps:=4000000) [-getElem?_pos,hb,hc',hq',Tryz.results152]
  ·have hq':(x2==m2)=false:=by simpa using hq
   simp (maxSteps:=4000000) [-getElem?_pos,hb,hc',hq',Tryz.results152]
 ·have hc':(x1==m1)=false:=by simpa using hc
  simp (maxSteps:=4000000) [-getElem?_pos,hb,hc',Tryz.results152]
theorem qgw (m:List UInt8×List UInt8) (b:Nat) (sh:Option (TypeId×Nat)) (x:Rp) (σ:List (List AV)) (hb:σ[b]? = some [.str m.1,.str m.2]):ev 160 [rpF x,.gp b 0 sh] σ=some (.bool (isM m x.1),σ):=by
 obtain⟨⟨x1,x2⟩,x3,x4⟩:=x
 obtain⟨m1,m2⟩:=m
 unfold isM
 simp only[rpFx] at hb ⊢
 refine q9 rfl Tryz.func160 rfl (by simp[Tryz.ntmps160]) (by kernel_rfl) (by kernel_rfl) ?_
 by_cases hc:x1=m1
 ·have hc':(x1==m1)=true:=by simpa using hc
  by_cases hq:x2=m2
  ·have hq':(x2==m2)=true:=by simpa using hq
   simp (maxSteps:=4000000) [-getElem?_pos,hb,hc',hq',Tryz.results160]
  ·have hq':(x2==m2)=false:=by simpa using hq
   simp (maxSteps:=4000000) [-getElem?_pos,hb,hc',hq',Tryz.results160]
 ·have hc':(x1==m1)=false:=by simpa using hc
  simp (maxSteps:=4000000) [-getElem?_pos,hb,hc',Tryz.results160]
end Go.Proofs.Tryz.Ai
end
section
namespace Go.Proofs.Tryz.Ai
open Go Go.AI Go.Proofs
theorem qyn (n:Nat) (hn:n<10^18) (σ):ev 135 [.int .i64 n] σ=some (.str (Lib.decDigits n),σ):=by
 rw[qx9]
 have:Lib.itoa (n:Int)=Lib.decDigits n:=by unfold Lib.itoa;rw[if_neg (by omega)];simp
 simp only[itoaT]
 rw[qo (by omega),this]
end Go.Proofs.Tryz.Ai
end
section
namespace Go.Proofs.Tryz.Ai
open Go Go.AI Go.Proofs
theorem qjg (s:List UInt8) (hl:s.length≤2^30) (σ):ev 146 [.str s] σ=some (.bool (readB s).isSome,σ):=by
 have h1:=qjb s hl
 refine qk func146 ntmps146 ?_
 cases e1:readB s with
 | none=>rw[e1] at h1;simp (maxSteps:=mS) [h1,verA,results146]
 | some x=>rw[e1] at h1;simp (maxSteps:=mS) [h1,verA,results146]
def partsA:Option Ver→AV
 | some v=>.tup [.int .i64 v.ma,.int .i64 v.mi,.int .i64 v.pa,.str v.pre,.bool true]
 | none=>.tup [.int .i64 0,.int .i64 0,.int .i64 0,.str [],.bool false]
end Go.Proofs.Tryz.Ai
end
