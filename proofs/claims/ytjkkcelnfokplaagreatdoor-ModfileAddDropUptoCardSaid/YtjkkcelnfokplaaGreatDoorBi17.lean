/- Part 17 of a proof: Go functions are evaluated on abstract values; no conditions beyond those of each theorem. -/
import Derived.Test.YtjkkcelnfokplaaGreatDoorBi16
set_option linter.all false
set_option maxHeartbeats 16000000
set_option maxRecDepth 4000
section
namespace Go.Proofs.Tryz.Ai
open Go Go.AI Go.Proofs
def orL (l:List Int):Int:=l.foldr orI 0
def intC (x y:Int):Int:=if x<y then -1 else if y<x then 1 else 0
theorem que (a b:Nat):intC a b=natC a b:=by unfold intC natC;simp only[Int.ofNat_lt]
theorem qma (x:Int):orI x 0=x:=by unfold orI;split<;>omega
theorem qmb (l:List Int) (i:Nat) (h:∀x∈l.take i,x=0):orL l=orL (l.drop i):=by
 induction l generalizing i with
 | nil=>simp
 | cons a r ih =>
  cases i with
  | zero=>rfl
  | succ i =>
   simp only[List.take_succ_cons,List.mem_cons,forall_eq_or_imp] at h
   rw[List.drop_succ_cons,← ih i h.2]
   simp[orL,orI,h.1]
theorem qd3 (l:List Int) (hl:l.length≤2^31) (σ):ev 62 [.sl .sh (l.map (.int .i64))] σ=some (.int .i64 (orL l),σ):=by
 refine qh func62 ntmps62 ?_
 simp (maxSteps:=mS) (disch:=omega) [dT,dF,ql]
 refine qj (I:=fun i:Nat=>⟨[(3,.int .i64 0),(6,.sl .sh (l.map (.int .i64))),(7,.int .i64 l.length),(8,.int .i64 i)],[],σ⟩) (Pr:=fun i=>i≤l.length∧∀x∈l.take i,x=0) (μ:=fun i=>l.length-i) (a:=0) (by simp) (by simp) ?_
 rintro i ⟨hi,hn⟩
 by_cases hc:i<l.length
 ·obtain⟨x,hx⟩:∃x,l[i]=x:=⟨_,rfl⟩
  have hx2:l[i]? = some x:=by rw[← hx];exact List.getElem?_eq_getElem hc
  have w6:=wr1 i (by omega)
  have hd:=qmb l i hn
  rw[List.drop_eq_getElem_cons hc,hx] at hd
  by_cases hq:x=0
  ·simp (maxSteps:=mS) [-getElem?_pos,hc,hx2,hq,w6]
   exact⟨i+1,⟨by omega,take_all (p:=id) hc hn (hx.trans hq)⟩,by omega,by simp⟩
  ·have h2:orL l=x:=by rw[hd];simp[orL,orI,hq]
   simp (maxSteps:=mS) [-getElem?_pos,hc,hx2,hq,h2,results62]
 ·have hi':i=l.length:=by omega
  subst hi'
  have hd:=qmb l _ hn
  simp only[List.drop_length] at hd
  have h2:orL l=0:=hd
  simp (maxSteps:=mS) [h2,results62]
theorem qqg (x y:Int) (σ):ev 128 [.int .i64 x,.int .i64 y] σ=some (.int .i64 (intC x y),σ):=by
 have hn:∀z σ,ev 194 [.int .i64 z] σ=some (.bool false,σ):=by
  intro z σ
  refine qh func194 ntmps194 ?_
  simp (maxSteps:=mS) [results194]
 refine qh func128 ntmps128 ?_
 by_cases h1:x<y
 ·simp (maxSteps:=mS) [hn,h1,intC,results128]
 ·by_cases h2:y<x
  ·simp (maxSteps:=mS) [hn,h1,h2,intC,results128]
  ·simp (maxSteps:=mS) [hn,h1,h2,intC,results128]
theorem qc2 (x y:Nat) (σ):ev 128 [.int .i64 x,.int .i64 y] σ=some (.int .i64 (natC x y),σ):=by rw[qqg,que]
theorem qca (a b:List UInt8) (σ):ev 59 [.str a,.str b] σ=some (.int .i64 (bytesC a b),σ):=by
 have h1:∀σ,ev 125 [.str a,.str b] σ=some (.int .i64 (bytesC a b),σ):=fun σ=>by rw[qnj];simp[compareT,qfz]
 refine qh func59 ntmps59 ?_
 simp (maxSteps:=mS) [h1,results59]
theorem qgz (L M:List (List UInt8)) (hL:L.length≤2^31) (hM:M.length≤2^31) (g:Nat) (cap:List AV) (c:List UInt8→List UInt8→Int) (hg:g<100000) (σ:List (List AV))
  (hp:∀a∈L,∀b∈M,ev g (.str a::.str b::cap) σ=some (.int .i64 (c a b),σ)) :
  ev 195 [.sl .sh (L.map .str),.sl .sh (M.map .str),.fn g cap] σ=some (.int .i64 (lexC c L M),σ):=by
 refine qh func195 ntmps195 ?_
 simp (maxSteps:=mS) (disch:=omega) [dT,dF,ql]
 refine qj (I:=fun i:Nat=>⟨[(0,.sl .sh (L.map .str)),(1,.sl .sh (M.map .str)),(2,.fn g cap),(11,.sl .sh (L.map .str)),(12,.int .i64 L.length),(13,.int .i64 i)],[],σ⟩)
  (Pr:=fun i=>i≤L.length∧i≤M.length∧lexC c L M=lexC c (L.drop i) (M.drop i)) (μ:=fun i=>L.length-i) (a:=0) (by simp) (by simp) ?_
 rintro i ⟨hi,hj,hn⟩
 by_cases hc:i<L.length
 ·obtain⟨x,hx⟩:∃x,L[i]=x:=⟨_,rfl⟩
  have hx2:L[i]? = some x:=by rw[← hx];exact List.getElem?_eq_getElem hc
  have w6:=wr1 i (by omega)
  rw[List.drop_eq_getElem_cons hc,hx] at hn
  by_cases hd:i<M.length
  ·obtain⟨y,hy⟩:∃y,M[i]=y:=⟨_,rfl⟩
   have hy2:M[i]? = some y:=by rw[← hy];exact List.getElem?_eq_getElem hd
   have hd':¬M.length≤i:=by omega
   rw[List.drop_eq_getElem_cons hd,hy] at hn
   have hq:=hp x (hx▸List.getElem_mem hc) y (hy▸List.getElem_mem hd)
   by_cases hz:c x y=0
   ·have h2:lexC c L M=lexC c (L.drop (i+1)) (M.drop (i+1)):=by rw[hn];simp[lexC,orI,hz]
    simp (maxSteps:=mS) [-getElem?_pos,hc,hd,hd',hx2,hy2,hg,hq,hz,w6]
    exact⟨i+1,⟨by omega,by omega,h2⟩,by omega,by simp⟩
   ·have h2:lexC c L M=c x y:=by rw[hn];simp[lexC,orI,hz]
    simp (maxSteps:=mS) [-getElem?_pos,hc,hd,hd',hx2,hy2,hg,hq,hz,h2,results195]
  ·have hd':M.length≤i:=by omega
   have h3:M.drop i=[]:=List.drop_of_length_le hd'
   have h2:lexC c L M=1:=by rw[hn,h3];simp[lexC]
   simp (maxSteps:=mS) [-getElem?_pos,hc,hd,hd',hx2,h2,results195]
 ·have hi':i=L.length:=by omega
  subst hi'
  rw[List.drop_length] at hn
  by_cases hd:L.length<M.length
  ·have h2:lexC c L M=-1:=by rw[hn,List.drop_eq_getElem_cons hd];simp[lexC]
   simp (maxSteps:=mS) [hd,h2,results195]
  ·have h2:lexC c L M=0:=by rw[hn,List.drop_of_length_le (by omega)];simp[lexC]
   simp (maxSteps:=mS) [hd,h2,results195]
theorem quf (a b:List UInt8) (ha:a.length≤2^31) (hb:b.length≤2^31) (σ):ev 196 [.str a,.str b] σ=some (.int .i64 (idC a b),σ):=by
 have h1:=qf6 a ha
 have h2:=qf6 b hb
 have h3:=qca a b
 have h4:=qc2 a.length b.length
 have h5:=fun σ=>qd3 [natC a.length b.length,bytesC a b] (by simp) σ
 have h6:orL [natC a.length b.length,bytesC a b]=orI (natC a.length b.length) (bytesC a b):=by simp only[orL,List.foldr_cons,List.foldr_nil,qma]
 rw[h6] at h5
 simp only[List.map_cons,List.map_nil] at h5
 refine qh func196 ntmps196 ?_
 by_cases d1:allB isD a=true
 ·by_cases d2:allB isD b=true
  ·simp (maxSteps:=mS) [h1,h2,h3,h4,h5,d1,d2,idC,results196]
  ·simp (maxSteps:=mS) [h1,h2,h3,d1,d2,idC,results196]
 ·by_cases d2:allB isD b=true
  ·simp (maxSteps:=mS) [h1,h2,h3,d1,d2,idC,results196]
  ·simp (maxSteps:=mS) [h1,h2,h3,d1,d2,idC,results196]
theorem qx3 (a b:List UInt8) (ha:a.length≤2^30) (hb:b.length≤2^30) (σ):ev 129 [.str a,.str b] σ=some (.int .i64 (presC a b),σ):=by
 have hmin:∀l:List UInt8,(if 1<l.length then (1:Int) else l.length)=((min l.length 1:Nat):Int):=by intro l;split<;>omega
 have h1:=qc2 (min b.length 1) (min a.length 1)
 have h2:=qc1 a ha 46
 have h3:=qc1 b hb 46
 have h4:=fun σ=>qgz (splitB 46 a) (splitB 46 b) (by have:=qcj 46 a;omega) (by have:=qcj 46 b;omega) 196 [] idC (by decide) σ
  (fun x hx y hy=>quf x y (by have:=qb8 hx;omega) (by have:=qb8 hy;omega) σ)
 refine qh func129 ntmps129 ?_
 by_cases e1:a=[]
 ·subst e1
  have h5:presC [] b=natC (min b.length 1) 0:=by simp[presC]
  have h1':∀σ,ev 128 [.int .i64 ((min b.length 1:Nat):Int),.int .i64 0] σ=some (.int .i64 (natC (min b.length 1) 0),σ):=h1
  simp (maxSteps:=mS) [hmin,h1',h5,results129]
 ·by_cases e2:b=[]
  ·subst e2
   have h5:presC a []=natC 0 (min a.length 1):=by simp[presC]
   have h1':∀σ,ev 128 [.int .i64 0,.int .i64 ((min a.length 1:Nat):Int)] σ=some (.int .i64 (natC 0 (min a.length 1)),σ):=h1
   have e1':a.isEmpty=false:=by simpa using e1
   simp (maxSteps:=mS) [e1',hmin,h1',h5,results129]
  ·have h5:presC a b=lexC idC (splitB 46 a) (splitB 46 b):=by simp[presC,e1,e2]
   have e1':a.isEmpty=false:=by simpa using e1
   have e2':b.isEmpty=false:=by simpa using e2
   simp (maxSteps:=mS) [e1',e2',h2,h3,h4,h5,results129]
theorem qgb (a b:List UInt8) (ha:a.length≤2^30) (hb:b.length≤2^30) (σ):ev 63 [.str a,.str b] σ=some (.int .i64 (cmpB a b),σ):=by
 have h1:=qin a ha
 have h2:=qin b hb
 have h3:=qca a b
 refine qh func63 ntmps63 ?_
 cases e1:readB a with
 | none =>
  rw[e1] at h1
  cases e2:readB b with
  | none =>
   rw[e2] at h2
   have h4:cmpB a b=bytesC a b:=by simp[cmpB,e1,e2]
   simp (maxSteps:=mS) [h1,h2,h3,h4,verA,results63]
  | some y =>
   rw[e2] at h2
   have h4:cmpB a b=-1:=by simp[cmpB,e1,e2]
   simp (maxSteps:=mS) [h1,h2,h3,h4,verA,results63]
 | some x =>
  rw[e1] at h1
  cases e2:readB b with
  | none =>
   rw[e2] at h2
   have h4:cmpB a b=1:=by simp[cmpB,e1,e2]
   simp (maxSteps:=mS) [h1,h2,h3,h4,verA,results63]
  | some y =>
   rw[e2] at h2
   have h4:cmpB a b=verC x y:=by simp[cmpB,e1,e2]
   have rx:=qdb e1
   have ry:=qdb e2
   have p1:x.pre.length≤2^30:=by
    have:=rx.len;rw[rx.text] at this;unfold verT at this;split at this
    ·rename_i q;rw[q];simp
    ·simp at this;omega
   have p2:y.pre.length≤2^30:=by
    have:=ry.len;rw[ry.text] at this;unfold verT at this;split at this
    ·rename_i q;rw[q];simp
    ·simp at this;omega
   have h5:=qc2 x.ma y.ma
   have h6:=qc2 x.mi y.mi
   have h7:=qc2 x.pa y.pa
   have h8:=qx3 x.pre y.pre p1 p2
   have h9:=fun σ=>qd3 [natC x.ma y.ma,natC x.mi y.mi,natC x.pa y.pa,presC x.pre y.pre] (by simp) σ
   have ha:orL [natC x.ma y.ma,natC x.mi y.mi,natC x.pa y.pa,presC x.pre y.pre]=verC x y:=by
    unfold verC;simp only[orL,List.foldr_cons,List.foldr_nil,qma]
   rw[ha] at h9
   simp only[List.map_cons,List.map_nil] at h9
   simp (maxSteps:=mS) [h1,h2,h3,h4,h5,h6,h7,h8,h9,verA,results63]
end Go.Proofs.Tryz.Ai
end
section
namespace Go.Proofs.Tryz.Ai
open Go Go.AI Go.Proofs
theorem qx5 (n:Nat) (hn:n<10^18) (σ):ev 135 [.int .i64 n] σ=some (.str (Lib.decDigits n),σ):=by
 rw[qxs]
 have:Lib.itoa (n:Int)=Lib.decDigits n:=by unfold Lib.itoa;rw[if_neg (by omega)];simp
 simp only[itoaT]
 rw[qo (by omega),this]
end Go.Proofs.Tryz.Ai
end
section
namespace Go.Proofs.Tryz.Ai
open Go Go.AI Go.Proofs
theorem qir (s:List UInt8) (hl:s.length≤2^30) (σ):ev 146 [.str s] σ=some (.bool (readB s).isSome,σ):=by
 have h1:=qin s hl
 refine qh func146 ntmps146 ?_
 cases e1:readB s with
 | none=>rw[e1] at h1;simp (maxSteps:=mS) [h1,verA,results146]
 | some x=>rw[e1] at h1;simp (maxSteps:=mS) [h1,verA,results146]
def partsA:Option Ver→AV
 | some v=>.tup [.int .i64 v.ma,.int .i64 v.mi,.int .i64 v.pa,.str v.pre,.bool true]
 | none=>.tup [.int .i64 0,.int .i64 0,.int .i64 0,.str [],.bool false]
end Go.Proofs.Tryz.Ai
end
