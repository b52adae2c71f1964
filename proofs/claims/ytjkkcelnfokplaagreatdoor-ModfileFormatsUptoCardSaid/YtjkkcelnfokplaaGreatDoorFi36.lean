/- Part 36 of a proof: Go functions are evaluated on abstract values; no conditions beyond those of each theorem. -/
import Derived.Test.YtjkkcelnfokplaaGreatDoorFi35
set_option linter.all false
set_option maxHeartbeats 16000000
set_option maxRecDepth 4000
section
namespace Go.Proofs.Tryz.Ai
open Go Go.AI Go.Proofs
def modT (m:List UInt8×List UInt8):List UInt8:=if m.2=[] then m.1 else m.1++[32]++m.2
def indT:List UInt8:=[32,47,47,32,105,110,100,105,114,101,99,116]
def rqT (x:Rq):List UInt8:=if x.2.2 then modT (x.1,x.2.1)++indT else modT (x.1,x.2.1)
def arT:List UInt8:=[32,61,62,32]
def rpT (x:Rp):List UInt8:=modT x.1++arT++modT x.2
def rtT (x:Rt):List UInt8:=if x.1=x.2 then x.1 else [91]++x.1++[44,32]++x.2++[93]
def shT (m:List UInt8×List UInt8):Prop:=m.1.length≤2^20∧m.2.length≤2^20
theorem qbb {m:List UInt8×List UInt8} (h:shT m):(modT m).length≤2^21+1:=by
 obtain⟨h1,h2⟩:=h
 unfold modT
 split
 ·omega
 ·simp;omega
theorem text_eq (m:List UInt8×List UInt8) (h:shT m) (σ):ev 44 [modA m] σ=some (.str (modT m),σ):=by
 obtain⟨m1,m2⟩:=m
 obtain⟨h1,h2⟩:=h
 simp only at h1 h2
 rw[modAx]
 refine qk func44 ntmps44 ?_
 by_cases hv:m2=[]
 ·have hv':(m2==[])=true:=by simpa using hv
  have hT:modT (m1,m2)=m1:=by unfold modT;rw[if_pos hv]
  simp (maxSteps:=mS) [hv',hT,results44]
 ·have hv':(m2==[])=false:=by simpa using hv
  have hT:modT (m1,m2)=m1++[32]++m2:=by unfold modT;rw[if_neg hv]
  obtain⟨t1,ht1⟩:∃t,m1++[32]=t:=⟨_,rfl⟩
  have l1:t1.length=m1.length+1:=by rw[← ht1];simp
  have b1:m1.length+1≤most:=by unfold most;omega
  have b2:t1.length+m2.length≤most:=by unfold most;omega
  rw[ht1] at hT
  simp (maxSteps:=mS) [-List.append_assoc,hv',b1,ht1,b2,hT,results44]
theorem fmt1_eq (x:Rq) (h:shT (x.1,x.2.1)) (σ):ev 43 [rqF x] σ=some (.str (rqT x),σ):=by
 have hof:=qyq x
 have ht:=text_eq (x.1,x.2.1) h
 have hl:=qbb h
 obtain⟨x1,x2,x3⟩:=x
 simp only at ht hl
 have hT:rqT (x1,x2,x3)=if x3 then modT (x1,x2)++indT else modT (x1,x2):=rfl
 obtain⟨t,htt⟩:∃t,modT (x1,x2)=t:=⟨_,rfl⟩
 rw[htt] at ht hl hT
 have b1:t.length+12≤most:=by unfold most;omega
 rw[rqFx] at hof ⊢
 rw[modAx] at ht hof
 refine qk func43 ntmps43 ?_
 cases x3 with
 | true =>
  rw[if_pos rfl] at hT
  obtain⟨u,hu⟩:∃u,t++indT=u:=⟨_,rfl⟩
  rw[hu] at hT
  unfold indT at hu
  simp (maxSteps:=mS) [hof,ht,b1,hu,hT,results43]
 | false =>
  rw[if_neg (by simp)] at hT
  simp (maxSteps:=mS) [hof,ht,hT,results43]
theorem fmt2_eq (x:Rp) (h1:shT x.1) (h2:shT x.2) (σ):ev 48 [rpF x] σ=some (.str (rpT x),σ):=by
 have ht1:=text_eq x.1 h1
 have ht2:=text_eq x.2 h2
 have hl1:=qbb h1
 have hl2:=qbb h2
 have hT:rpT x=modT x.1++arT++modT x.2:=rfl
 obtain⟨⟨x1,x2⟩,x3,x4⟩:=x
 simp only at ht1 ht2 hl1 hl2 hT
 obtain⟨a,ha⟩:∃t,modT (x1,x2)=t:=⟨_,rfl⟩
 obtain⟨b,hb⟩:∃t,modT (x3,x4)=t:=⟨_,rfl⟩
 rw[ha] at ht1 hl1 hT
 rw[hb] at ht2 hl2 hT
 obtain⟨u,hu⟩:∃u,a++arT=u:=⟨_,rfl⟩
 have hul:u.length=a.length+4:=by rw[← hu];simp[arT]
 rw[hu] at hT
 unfold arT at hu
 have b1:a.length+4≤most:=by unfold most;omega
 have b2:u.length+b.length≤most:=by unfold most;omega
 rw[rpFx]
 rw[modAx] at ht1 ht2
 refine qk func48 ntmps48 ?_
 simp (maxSteps:=mS) [-qb]
 refine qg [] _ (k:=?_)
 repeat (first|refine qd _ (hs:=by simp (maxSteps:=mS) [-List.append_assoc,ht1,ht2,b1,b2,hu];exact rfl) (k:=?_)|refine qe _ (k:=?_))
 refine qc ?_
 simp (maxSteps:=mS) [-List.append_assoc,hT,hu,results48]
theorem fmt3_eq (x:Rt) (h:shT x) (σ):ev 50 [rtF x] σ=some (.str (rtT x),σ):=by
 obtain⟨x1,x2⟩:=x
 obtain⟨h1,h2⟩:=h
 simp only at h1 h2
 have hT:rtT (x1,x2)=if x1=x2 then x1 else [91]++x1++[44,32]++x2++[93]:=rfl
 rw[rtFx]
 refine qk func50 ntmps50 ?_
 by_cases he:x1=x2
 ·rw[if_pos he] at hT
  have he':(x1==x2)=true:=by simpa using he
  simp (maxSteps:=mS) [-beq_iff_eq,he',hT,results50]
 ·rw[if_neg he] at hT
  have he':(x1==x2)=false:=by simpa using he
  obtain⟨t1,ht1⟩:∃t,[91]++x1=t:=⟨_,rfl⟩
  have l1:t1.length=x1.length+1:=by rw[← ht1];simp
  have ht1':91::x1=t1:=ht1
  obtain⟨t2,ht2⟩:∃t,t1++[44,32]=t:=⟨_,rfl⟩
  have l2:t2.length=x1.length+3:=by rw[← ht2];simp[l1]
  obtain⟨t3,ht3⟩:∃t,t2++x2=t:=⟨_,rfl⟩
  have l3:t3.length=x1.length+3+x2.length:=by rw[← ht3];simp[l2]
  obtain⟨t4,ht4⟩:∃t,t3++[93]=t:=⟨_,rfl⟩
  rw[ht1,ht2,ht3,ht4] at hT
  have b1:x1.length+1≤most:=by unfold most;omega
  have b1':1+x1.length≤most:=by unfold most;omega
  have b2:t1.length+2≤most:=by unfold most;omega
  have b3:t2.length+x2.length≤most:=by unfold most;omega
  have b4:t3.length+1≤most:=by unfold most;omega
  simp (maxSteps:=mS) [-List.append_assoc,-beq_eq_false_iff_ne,he',b1,b1',b2,b3,b4,ht1,ht1',ht2,ht3,ht4,hT,results50]
def rowT (s:List UInt8):List UInt8:=[9]++s++[10]
def blkT (w:List UInt8) (ls:List (List UInt8)):List UInt8:=if ls=[] then [] else [10]++w++[32,40,10]++ls.flatMap rowT++[41,10]
theorem flat_row:∀{ls:List (List UInt8)},(∀s∈ls,s.length≤2^23)→(ls.flatMap rowT).length≤ls.length*2^24
 | [],_=>by simp
 | s::r,h=>by
  have h1:=h s (List.mem_cons_self ..)
  have h2:=flat_row (ls:=r) fun y hy=>h y (List.mem_cons_of_mem _ hy)
  rw[List.flatMap_cons,List.length_append,List.length_cons]
  have:(rowT s).length=s.length+2:=by simp[rowT]
  omega
def blkI {α:Type} (L:List α) (line:α→List UInt8) (a:List UInt8) (i:Nat) (t:List UInt8):Prop:=i≤L.length∧t=a++((L.map line).take i).flatMap rowT
theorem qsd (b:Nat) (o:Option (List UInt8)) (σ:List (List AV)) (hb:σ[b]? = some (bc b o)) (w:List UInt8) (hw:w.length≤100) (L:List (Rq)) (hL:L.length≤200) (ho:(txt o).length≤2^36) (g:FuncId) (hg:g<100000) (line:Rq→List UInt8)
  (h:∀x∈L,(line x).length≤2^23∧∀σ,ev g [rqF x] σ=some (.str (line x),σ)) :
  ev 42 [.gp b 0 (some (SB,2)),.str w,.sl .sh (L.map rqF),.fn g []] σ=some (.tup [],σ.set b (bc b (if L=[] then o else some (txt o++blkT w (L.map line))))):=by
 have hbl:=(List.getElem?_eq_some_iff.1 hb).1
 refine qk func42 ntmps42 ?_
 by_cases h0:L=[]
 ·subst h0
  have hs:σ.set b (bc b o)=σ:=List.ext_getElem? fun i=>by
   rw[List.getElem?_set]
   split
   ·rename_i e;subst e;first|exact hb.symm|simp[hbl,hb]
   ·rfl
  rw[if_pos rfl,hs]
  simp (maxSteps:=mS) [results42]
 ·have hLl:0<L.length:=List.length_pos_iff.2 h0
  have hLn:¬L.length=0:=by omega
  rw[if_neg h0]
  obtain⟨t0,ht0⟩:∃t,[10]++w=t:=⟨_,rfl⟩
  have ht0':10::w=t0:=ht0
  have l0:t0.length=w.length+1:=by rw[← ht0];simp
  obtain⟨t1,ht1⟩:∃t,t0++[32,40,10]=t:=⟨_,rfl⟩
  have l1:t1.length=w.length+4:=by rw[← ht1];simp[l0]
  have c0:1+w.length≤most:=by unfold most;omega
  have c0':w.length+1≤most:=by unfold most;omega
  have c1:t0.length+3≤most:=by unfold most;omega
  have hW1:=qy b σ o t1 (by unfold most;omega) hb
  obtain⟨a,ha⟩:∃a,txt o++t1=a:=⟨_,rfl⟩
  have hal:a.length≤2^37:=by rw[← ha];simp;omega
  rw[ha] at hW1
  have hfin:txt o++blkT w (L.map line)=a++(L.map line).flatMap rowT++[41,10]:=by
   unfold blkT
   rw[if_neg (by simpa using h0),← ha,← ht1,← ht0];simp
  have hall:allCells 3 (L.map rqF):=by simp
  simp only[SB] at hW1 ⊢
  simp (maxSteps:=mS) [-List.append_assoc,-Prod.exists,-Prod.forall,hLn,h0,c0,c0',c1,ht0,ht0',ht1,hW1]
  refine qf (I:=fun p:Nat×List UInt8=>⟨[(0,.gp b 0 (some (101,2))),(3,.fn g []),(18,.sl .sh (L.map rqF)),(19,.int .i64 L.length),(20,.int .i64 p.1)],[],σ.set b (bc b (some p.2))⟩)
   (Pr:=fun p=>blkI L line a p.1 p.2) (μ:=fun p=>L.length-p.1) (a:=(0,a)) (by simp) ⟨by simp,by simp⟩ ?_
  rintro⟨i,t⟩ ⟨hi,ht⟩
  simp only at hi ht ⊢
  have w1:=wr1 i (by omega)
  have htl:t.length≤2^38:=by
   have:=flat_row (ls:=(L.map line).take i) fun s hs=>by
    obtain⟨x,hx,rfl⟩:=List.mem_map.1 (List.mem_of_mem_take hs)
    exact (h x hx).1
   have h2:((L.map line).take i).length≤200:=by simp;omega
   have h3:=Nat.le_trans this (Nat.mul_le_mul_right _ h2)
   rw[ht,List.length_append];omega
  have hbt:(σ.set b (bc b (some t)))[b]? = some (bc b (some t)):=qdi hbl _
  by_cases hc:i<L.length
  ·obtain⟨x,hx⟩:=getS hc
   obtain⟨hll,hE⟩:=h x (List.mem_of_getElem? hx)
   have hnx:blkI L line a (i+1) (t++rowT (line x)):=⟨by omega,by
    rw[ht,List.take_add_one,List.getElem?_map,hx,List.flatMap_append];simp⟩
   obtain⟨s,hs⟩:∃s,line x=s:=⟨_,rfl⟩
   rw[hs] at hll hE hnx
   clear hs
   obtain⟨x1,x2,x3⟩:=x
   rw[rqFx] at hE
   obtain⟨u0,hu0⟩:∃u,[9]++s=u:=⟨_,rfl⟩
   have hu0':9::s=u0:=hu0
   have k0:u0.length=s.length+1:=by rw[← hu0];simp
   obtain⟨u1,hu1⟩:∃u,u0++[10]=u:=⟨_,rfl⟩
   have k1:u1.length=s.length+2:=by rw[← hu1];simp[k0]
   have d0:1+s.length≤most:=by unfold most;omega
   have d0':s.length+1≤most:=by unfold most;omega
   have d1:u0.length+1≤most:=by unfold most;omega
   have hrw:rowT s=u1:=by unfold rowT;rw[hu0,hu1]
   rw[hrw] at hnx
   have hW:=qy b (σ.set b (bc b (some t))) (some t) u1 (by simp only[txt_some];unfold most;omega) hbt
   simp only[txt_some,List.set_set,SB] at hW
   obtain⟨t',ht'⟩:∃t',t++u1=t':=⟨_,rfl⟩
   rw[ht'] at hW hnx
   simp (maxSteps:=mS) [-getElem?_pos,-List.append_assoc,-Prod.exists,-Prod.forall,hc,hx,rqFx,hg,hE,d0,d0',d1,hu0,hu0',hu1,hW,w1]
   exact⟨(i+1,t'),hnx,by simp;omega,by simp⟩
  ·have hie:(L.map line).take i=L.map line:=List.take_of_length_le (by simp;omega)
   rw[hie] at ht
   have hW:=qy b (σ.set b (bc b (some t))) (some t) [41,10] (by simp only[txt_some];unfold most;simp;omega) hbt
   simp only[txt_some,List.set_set,SB] at hW
   rw[hfin,← ht]
   obtain⟨t',ht'⟩:∃t',t++[41,10]=t':=⟨_,rfl⟩
   rw[ht'] at hW ⊢
   simp (maxSteps:=mS) [-List.append_assoc,hc,hW,results42]
   rw[qo (qfs (by simp only[qi4];exact .inr hbl))]
theorem qse (b:Nat) (o:Option (List UInt8)) (σ:List (List AV)) (hb:σ[b]? = some (bc b o)) (w:List UInt8) (hw:w.length≤100) (L:List (List UInt8×List UInt8)) (hL:L.length≤200) (ho:(txt o).length≤2^36) (g:FuncId) (hg:g<100000) (line:List UInt8×List UInt8→List UInt8)
  (h:∀x∈L,(line x).length≤2^23∧∀σ,ev g [modA x] σ=some (.str (line x),σ)) :
  ev 46 [.gp b 0 (some (SB,2)),.str w,.sl .sh (L.map modA),.fn g []] σ=some (.tup [],σ.set b (bc b (if L=[] then o else some (txt o++blkT w (L.map line))))):=by
 have hbl:=(List.getElem?_eq_some_iff.1 hb).1
 refine qk func46 ntmps46 ?_
 by_cases h0:L=[]
 ·subst h0
  have hs:σ.set b (bc b o)=σ:=List.ext_getElem? fun i=>by
   rw[List.getElem?_set]
   split
   ·rename_i e;subst e;first|exact hb.symm|simp[hbl,hb]
   ·rfl
  rw[if_pos rfl,hs]
  simp (maxSteps:=mS) [results46]
 ·have hLl:0<L.length:=List.length_pos_iff.2 h0
  have hLn:¬L.length=0:=by omega
  rw[if_neg h0]
  obtain⟨t0,ht0⟩:∃t,[10]++w=t:=⟨_,rfl⟩
  have ht0':10::w=t0:=ht0
  have l0:t0.length=w.length+1:=by rw[← ht0];simp
  obtain⟨t1,ht1⟩:∃t,t0++[32,40,10]=t:=⟨_,rfl⟩
  have l1:t1.length=w.length+4:=by rw[← ht1];simp[l0]
  have c0:1+w.length≤most:=by unfold most;omega
  have c0':w.length+1≤most:=by unfold most;omega
  have c1:t0.length+3≤most:=by unfold most;omega
  have hW1:=qy b σ o t1 (by unfold most;omega) hb
  obtain⟨a,ha⟩:∃a,txt o++t1=a:=⟨_,rfl⟩
  have hal:a.length≤2^37:=by rw[← ha];simp;omega
  rw[ha] at hW1
  have hfin:txt o++blkT w (L.map line)=a++(L.map line).flatMap rowT++[41,10]:=by
   unfold blkT
   rw[if_neg (by simpa using h0),← ha,← ht1,← ht0];simp
  have hall:allCells 2 (L.map modA):=by simp
  simp only[SB] at hW1 ⊢
  simp (maxSteps:=mS) [-List.append_assoc,-Prod.exists,-Prod.forall,hLn,h0,c0,c0',c1,ht0,ht0',ht1,hW1]
  refine qf (I:=fun p:Nat×List UInt8=>⟨[(0,.gp b 0 (some (101,2))),(3,.fn g []),(18,.sl .sh (L.map modA)),(19,.int .i64 L.length),(20,.int .i64 p.1)],[],σ.set b (bc b (some p.2))⟩)
   (Pr:=fun p=>blkI L line a p.1 p.2) (μ:=fun p=>L.length-p.1) (a:=(0,a)) (by simp) ⟨by simp,by simp⟩ ?_
  rintro⟨i,t⟩ ⟨hi,ht⟩
  simp only at hi ht ⊢
  have w1:=wr1 i (by omega)
  have htl:t.length≤2^38:=by
   have:=flat_row (ls:=(L.map line).take i) fun s hs=>by
    obtain⟨x,hx,rfl⟩:=List.mem_map.1 (List.mem_of_mem_take hs)
    exact (h x hx).1
   have h2:((L.map line).take i).length≤200:=by simp;omega
   have h3:=Nat.le_trans this (Nat.mul_le_mul_right _ h2)
   rw[ht,List.length_append];omega
  have hbt:(σ.set b (bc b (some t)))[b]? = some (bc b (some t)):=qdi hbl _
  by_cases hc:i<L.length
  ·obtain⟨x,hx⟩:=getS hc
   obtain⟨hll,hE⟩:=h x (List.mem_of_getElem? hx)
   have hnx:blkI L line a (i+1) (t++rowT (line x)):=⟨by omega,by
    rw[ht,List.take_add_one,List.getElem?_map,hx,List.flatMap_append];simp⟩
   obtain⟨s,hs⟩:∃s,line x=s:=⟨_,rfl⟩
   rw[hs] at hll hE hnx
   clear hs
   obtain⟨x1,x2⟩:=x
   rw[modAx] at hE
   obtain⟨u0,hu0⟩:∃u,[9]++s=u:=⟨_,rfl⟩
   have hu0':9::s=u0:=hu0
   have k0:u0.length=s.length+1:=by rw[← hu0];simp
   obtain⟨u1,hu1⟩:∃u,u0++[10]=u:=⟨_,rfl⟩
   have k1:u1.length=s.length+2:=by rw[← hu1];simp[k0]
   have d0:1+s.length≤most:=by unfold most;omega
   have d0':s.length+1≤most:=by unfold most;omega
   have d1:u0.length+1≤most:=by unfold most;omega
   have hrw:rowT s=u1:=by unfold rowT;rw[hu0,hu1]
   rw[hrw] at hnx
   have hW:=qy b (σ.set b (bc b (some t))) (some t) u1 (by simp only[txt_some];unfold most;omega) hbt
   simp only[txt_some,List.set_set,SB] at hW
   obtain⟨t',ht'⟩:∃t',t++u1=t':=⟨_,rfl⟩
   rw[ht'] at hW hnx
   simp (maxSteps:=mS) [-getElem?_pos,-List.append_assoc,-Prod.exists,-Prod.forall,hc,hx,modAx,hg,hE,d0,d0',d1,hu0,hu0',hu1,hW,w1]
   exact⟨(i+1,t'),hnx,by simp;omega,by simp⟩
  ·have hie:(L.map line).take i=L.map line:=List.take_of_length_le (by simp;omega)
   rw[hie] at ht
   have hW:=qy b (σ.set b (bc b (some t))) (some t) [41,10] (by simp only[txt_some];unfold most;simp;omega) hbt
   simp only[txt_some,List.set_set,SB] at hW
   rw[hfin,← ht]
   obtain⟨t',ht'⟩:∃t',t++[41,10]=t':=⟨_,rfl⟩
   rw[ht'] at hW ⊢
   simp (maxSteps:=mS) [-List.append_assoc,hc,hW,results46]
   rw[qo (qfs (by simp only[qi4];exact .inr hbl))]
theorem qsf (b:Nat) (o:Option (List UInt8)) (σ:List (List AV)) (hb:σ[b]? = some (bc b o)) (w:List UInt8) (hw:w.length≤100) (L:List (Rp)) (hL:L.length≤200) (ho:(txt o).length≤2^36) (g:FuncId) (hg:g<100000) (line:Rp→List UInt8)
  (h:∀x∈L,(line x).length≤2^23∧∀σ,ev g [rpF x] σ=some (.str (line x),σ)) :
  ev 47 [.gp b 0 (some (SB,2)),.str w,.sl .sh (L.map rpF),.fn g []] σ=some (.tup [],σ.set b (bc b (if L=[] then o else some (txt o++blkT w (L.map line))))):=by
 have hbl:=(List.getElem?_eq_some_iff.1 hb).1
 refine qk func47 ntmps47 ?_
 by_cases h0:L=[]
 ·subst h0
  have hs:σ.set b (bc b o)=σ:=List.ext_getElem? fun i=>by
   rw[List.getElem?_set]
   split
   ·rename_i e;subst e;first|exact hb.symm|simp[hbl,hb]
   ·rfl
  rw[if_pos rfl,hs]
  simp (maxSteps:=mS) [results47]
 ·have hLl:0<L.length:=List.length_pos_iff.2 h0
  have hLn:¬L.length=0:=by omega
  rw[if_neg h0]
  obtain⟨t0,ht0⟩:∃t,[10]++w=t:=⟨_,rfl⟩
  have ht0':10::w=t0:=ht0
  have l0:t0.length=w.length+1:=by rw[← ht0];simp
  obtain⟨t1,ht1⟩:∃t,t0++[32,40,10]=t:=⟨_,rfl⟩
  have l1:t1.length=w.length+4:=by rw[← ht1];simp[l0]
  have c0:1+w.length≤most:=by unfold most;omega
  have c0':w.length+1≤most:=by unfold most;omega
  have c1:t0.length+3≤most:=by unfold most;omega
  have hW1:=qy b σ o t1 (by unfold most;omega) hb
  obtain⟨a,ha⟩:∃a,txt o++t1=a:=⟨_,rfl⟩
  have hal:a.length≤2^37:=by rw[← ha];simp;omega
  rw[ha] at hW1
  have hfin:txt o++blkT w (L.map line)=a++(L.map line).flatMap rowT++[41,10]:=by
   unfold blkT
   rw[if_neg (by simpa using h0),← ha,← ht1,← ht0];simp
  have hall:allCells 4 (L.map rpF):=by simp
  simp only[SB] at hW1 ⊢
  simp (maxSteps:=mS) [-List.append_assoc,-Prod.exists,-Prod.forall,hLn,h0,c0,c0',c1,ht0,ht0',ht1,hW1]
  refine qf (I:=fun p:Nat×List UInt8=>⟨[(0,.gp b 0 (some (101,2))),(3,.fn g []),(18,.sl .sh (L.map rpF)),(19,.int .i64 L.length),(20,.int .i64 p.1)],[],σ.set b (bc b (some p.2))⟩)
   (Pr:=fun p=>blkI L line a p.1 p.2) (μ:=fun p=>L.length-p.1) (a:=(0,a)) (by simp) ⟨by simp,by simp⟩ ?_
  rintro⟨i,t⟩ ⟨hi,ht⟩
  simp only at hi ht ⊢
  have w1:=wr1 i (by omega)
  have htl:t.length≤2^38:=by
   have:=flat_row (ls:=(L.map line).take i) fun s hs=>by
    obtain⟨x,hx,rfl⟩:=List.mem_map.1 (List.mem_of_mem_take hs)
    exact (h x hx).1
   have h2:((L.map line).take i).length≤200:=by simp;omega
   have h3:=Nat.le_trans this (Nat.mul_le_mul_right _ h2)
   rw[ht,List.length_append];omega
  have hbt:(σ.set b (bc b (some t)))[b]? = some (bc b (some t)):=qdi hbl _
  by_cases hc:i<L.length
  ·obtain⟨x,hx⟩:=getS hc
   obtain⟨hll,hE⟩:=h x (List.mem_of_getElem? hx)
   have hnx:blkI L line a (i+1) (t++rowT (line x)):=⟨by omega,by
    rw[ht,List.take_add_one,List.getElem?_map,hx,List.flatMap_append];simp⟩
   obtain⟨s,hs⟩:∃s,line x=s:=⟨_,rfl⟩
   rw[hs] at hll hE hnx
   clear hs
   obtain⟨⟨x1,x2⟩,x3,x4⟩:=x
   rw[rpFx] at hE
   obtain⟨u0,hu0⟩:∃u,[9]++s=u:=⟨_,rfl⟩
   have hu0':9::s=u0:=hu0
   have k0:u0.length=s.length+1:=by rw[← hu0];simp
   obtain⟨u1,hu1⟩:∃u,u0++[10]=u:=⟨_,rfl⟩
   have k1:u1.length=s.length+2:=by rw[← hu1];simp[k0]
   have d0:1+s.length≤most:=by unfold most;omega
   have d0':s.length+1≤most:=by unfold most;omega
   have d1:u0.length+1≤most:=by unfold most;omega
   have hrw:rowT s=u1:=by unfold rowT;rw[hu0,hu1]
   rw[hrw] at hnx
   have hW:=qy b (σ.set b (bc b (some t))) (some t) u1 (by simp only[txt_some];unfold most;omega) hbt
   simp only[txt_some,List.set_set,SB] at hW
   obtain⟨t',ht'⟩:∃t',t++u1=t':=⟨_,rfl⟩
   rw[ht'] at hW hnx
   simp (maxSteps:=mS) [-getElem?_pos,-List.append_assoc,-Prod.exists,-Prod.forall,hc,hx,rpFx,hg,hE,d0,d0',d1,hu0,hu0',hu1,hW,w1]
   exact⟨(i+1,t'),hnx,by simp;omega,by simp⟩
  ·have hie:(L.map line).take i=L.map line:=List.take_of_length_le (by simp;omega)
   rw[hie] at ht
   have hW:=qy b (σ.set b (bc b (some t))) (some t) [41,10] (by simp only[txt_some];unfold most;simp;omega) hbt
   simp only[txt_some,List.set_set,SB] at hW
   rw[hfin,← ht]
   obtain⟨t',ht'⟩:∃t',t++[41,10]=t':=⟨_,rfl⟩
   rw[ht'] at hW ⊢
   simp (maxSteps:=mS) [-List.append_assoc,hc,hW,results47]
   rw[qo (qfs (by simp only[qi4];exact .inr hbl))]
theorem qsg (b:Nat) (o:Option (List UInt8)) (σ:List (List AV)) (hb:σ[b]? = some (bc b o)) (w:List UInt8) (hw:w.length≤100) (L:List (Rt)) (hL:L.length≤200) (ho:(txt o).length≤2^36) (g:FuncId) (hg:g<100000) (line:Rt→List UInt8)
  (h:∀x∈L,(line x).length≤2^23∧∀σ,ev g [rtF x] σ=some (.str (line x),σ)) :
  ev 49 [.gp b 0 (some (SB,2)),.str w,.sl .sh (L.map rtF),.fn g []] σ=some (.tup [],σ.set b (bc b (if L=[] then o else some (txt o++blkT w (L.map line))))):=by
 have hbl:=(List.getElem?_eq_some_iff.1 hb).1
 refine qk func49 ntmps49 ?_
 by_cases h0:L=[]
 ·subst h0
  have hs:σ.set b (bc b o)=σ:=List.ext_getElem? fun i=>by
   rw[List.getElem?_set]
   split
   ·rename_i e;subst e;first|exact hb.symm|simp[hbl,hb]
   ·rfl
  rw[if_pos rfl,hs]
  simp (maxSteps:=mS) [results49]
 ·have hLl:0<L.length:=List.length_pos_iff.2 h0
  have hLn:¬L.length=0:=by omega
  rw[if_neg h0]
  obtain⟨t0,ht0⟩:∃t,[10]++w=t:=⟨_,rfl⟩
  have ht0':10::w=t0:=ht0
  have l0:t0.length=w.length+1:=by rw[← ht0];simp
  obtain⟨t1,ht1⟩:∃t,t0++[32,40,10]=t:=⟨_,rfl⟩
  have l1:t1.length=w.length+4:=by rw[← ht1];simp[l0]
  have c0:1+w.length≤most:=by unfold most;omega
  have c0':w.length+1≤most:=by unfold most;omega
  have c1:t0.length+3≤most:=by unfold most;omega
  have hW1:=qy b σ o t1 (by unfold most;omega) hb
  obtain⟨a,ha⟩:∃a,txt o++t1=a:=⟨_,rfl⟩
  have hal:a.length≤2^37:=by rw[← ha];simp;omega
  rw[ha] at hW1
  have hfin:txt o++blkT w (L.map line)=a++(L.map line).flatMap rowT++[41,10]:=by
   unfold blkT
   rw[if_neg (by simpa using h0),← ha,← ht1,← ht0];simp
  have hall:allCells 2 (L.map rtF):=by simp
  simp only[SB] at hW1 ⊢
  simp (maxSteps:=mS) [-List.append_assoc,-Prod.exists,-Prod.forall,hLn,h0,c0,c0',c1,ht0,ht0',ht1,hW1]
  refine qf (I:=fun p:Nat×List UInt8=>⟨[(0,.gp b 0 (some (101,2))),(3,.fn g []),(18,.sl .sh (L.map rtF)),(19,.int .i64 L.length),(20,.int .i64 p.1)],[],σ.set b (bc b (some p.2))⟩)
   (Pr:=fun p=>blkI L line a p.1 p.2) (μ:=fun p=>L.length-p.1) (a:=(0,a)) (by simp) ⟨by simp,by simp⟩ ?_
  rintro⟨i,t⟩ ⟨hi,ht⟩
  simp only at hi ht ⊢
  have w1:=wr1 i (by omega)
  have htl:t.length≤2^38:=by
   have:=flat_row (ls:=(L.map line).take i) fun s hs=>by
    obtain⟨x,hx,rfl⟩:=List.mem_map.1 (List.mem_of_mem_take hs)
    exact (h x hx).1
   have h2:((L.map line).take i).length≤200:=by simp;omega
   have h3:=Nat.le_trans this (Nat.mul_le_mul_right _ h2)
   rw[ht,List.length_append];omega
  have hbt:(σ.set b (bc b (some t)))[b]? = some (bc b (some t)):=qdi hbl _
  by_cases hc:i<L.length
  ·obtain⟨x,hx⟩:=getS hc
   obtain⟨hll,hE⟩:=h x (List.mem_of_getElem? hx)
   have hnx:blkI L line a (i+1) (t++rowT (line x)):=⟨by omega,by
    rw[ht,List.take_add_one,List.getElem?_map,hx,List.flatMap_append];simp⟩
   obtain⟨s,hs⟩:∃s,line x=s:=⟨_,rfl⟩
   rw[hs] at hll hE hnx
   clear hs
   obtain⟨x1,x2⟩:=x
   rw[rtFx] at hE
   obtain⟨u0,hu0⟩:∃u,[9]++s=u:=⟨_,rfl⟩
   have hu0':9::s=u0:=hu0
   have k0:u0.length=s.length+1:=by rw[← hu0];simp
   obtain⟨u1,hu1⟩:∃u,u0++[10]=u:=⟨_,rfl⟩
   have k1:u1.length=s.length+2:=by rw[← hu1];simp[k0]
   have d0:1+s.length≤most:=by unfold most;omega
   have d0':s.length+1≤most:=by unfold most;omega
   have d1:u0.length+1≤most:=by unfold most;omega
   have hrw:rowT s=u1:=by unfold rowT;rw[hu0,hu1]
   rw[hrw] at hnx
   have hW:=qy b (σ.set b (bc b (some t))) (some t) u1 (by simp only[txt_some];unfold most;omega) hbt
   simp only[txt_some,List.set_set,SB] at hW
   obtain⟨t',ht'⟩:∃t',t++u1=t':=⟨_,rfl⟩
   rw[ht'] at hW hnx
   simp (maxSteps:=mS) [-getElem?_pos,-List.append_assoc,-Prod.exists,-Prod.forall,hc,hx,rtFx,hg,hE,d0,d0',d1,hu0,hu0',hu1,hW,w1]
   exact⟨(i+1,t'),hnx,by simp;omega,by simp⟩
  ·have hie:(L.map line).take i=L.map line:=List.take_of_length_le (by simp;omega)
   rw[hie] at ht
   have hW:=qy b (σ.set b (bc b (some t))) (some t) [41,10] (by simp only[txt_some];unfold most;simp;omega) hbt
   simp only[txt_some,List.set_set,SB] at hW
   rw[hfin,← ht]
   obtain⟨t',ht'⟩:∃t',t++[41,10]=t':=⟨_,rfl⟩
   rw[ht'] at hW ⊢
   simp (maxSteps:=mS) [-List.append_assoc,hc,hW,results49]
   rw[qo (qfs (by simp only[qi4];exact .inr hbl))]
end Go.Proofs.Tryz.Ai
end
section
namespace Go.Proofs.Tryz.Ai
open Go Go.AI Go.Proofs
theorem LenB (b:Nat) (σ:List (List AV)) (o:Option (List UInt8)) (hb:σ[b]? = some (bc b o)) :
  ev 51 [.gp b 0 (some (SB,2))] σ=some (.int .i64 (txt o).length,σ):=by
 refine qk func51 ntmps51 ?_
 cases o with
 | none =>
  simp only[bc,txt_none] at hb ⊢
  simp (maxSteps:=mS) (disch:=omega) [dT,dF,qh,-getElem?_pos,List.getElem?_cons_zero,List.getElem?_cons_succ,hb,results51,SB,U8]
 | some l =>
  simp only[bc,txt_some] at hb ⊢
  simp (maxSteps:=mS) (disch:=omega) [dT,dF,qh,-getElem?_pos,List.getElem?_cons_zero,List.getElem?_cons_succ,hb,results51,SB,U8]
def moT:List UInt8:=[109,111,100,117,108,101,32]
def gT:List UInt8:=[10,103,111,32]
def goL (g:List UInt8):List UInt8:=if g=[] then [] else gT++g++[10]
def rqWd:List UInt8:=[114,101,113,117,105,114,101]
def exWd:List UInt8:=[101,120,99,108,117,100,101]
def rpWd:List UInt8:=[114,101,112,108,97,99,101]
def rtWd:List UInt8:=[114,101,116,114,97,99,116]
def fmtM (f:Mf):List UInt8:=moT++f.m++[10]++goL f.g++blkT rqWd (f.rq.map rqT)++blkT exWd (f.ex.map modT)++blkT rpWd (f.rp.map rpT)++blkT rtWd (f.rt.map rtT)
def fmtP (f:Mf):List UInt8×Int:=if mfE f≠0 then ([],mfE f) else if 65536<(fmtM (canonM f)).length then ([],13) else (fmtM (canonM f),0)
structure MfS (f:Mf):Prop where
 m:f.m.length≤2^20
 g:f.g.length≤2^20
 rq:∀x∈f.rq,shT (x.1,x.2.1)
 ex:∀x∈f.ex,shT x
 rp:∀x∈f.rp,shT x.1∧shT x.2
 rt:∀x∈f.rt,shT x
theorem MfS.canon {f:Mf} (h:MfS f):MfS (canonM f):=⟨h.m,h.g,fun x hx=>h.rq x (qac.1 hx),fun x hx=>h.ex x (qac.1 hx),fun x hx=>h.rp x (qac.1 hx),fun x hx=>h.rt x (qac.1 hx)⟩
theorem qam {a b:Int} (h:orI a b=0):a=0∧b=0:=by
 unfold orI at h
 split at h
 ·exact⟨by assumption,h⟩
 ·exact absurd h (by assumption)
structure MfG (f:Mf):Prop where
 path:pathB f.m=0
 go:f.g=[]∨minorB f.g≠none
 most:f.rq.length≤200∧f.ex.length≤200∧f.rp.length≤200∧f.rt.length≤200
 rq:rqsF f.m [] f.rq=0
 ex:eachE (fun x=>(checkB x.1 x.2:Int)) isM f.ex=0
 rp:eachE rpE (fun x y=>isM x.1 y.1) f.rp=0
 rt:eachE rtE isM f.rt=0
theorem qnu {f:Mf} (h:mfE f=0):MfG f:=by
 obtain⟨h1,h2⟩:=qam h
 obtain⟨h2,h3⟩:=qam h2
 obtain⟨a1,a2⟩:=qam h1
 obtain⟨a2,a3⟩:=qam a2
 obtain⟨a3,_⟩:=qam a3
 obtain⟨b1,b2⟩:=qam h3
 obtain⟨b2,b3⟩:=qam b2
 obtain⟨b3,_⟩:=qam b3
 refine⟨by omega,?_,?_,h2,b1,b2,b3⟩
 ·by_cases hg:f.g=[]
  ·exact .inl hg
  ·right;intro hn
   rw[if_pos ⟨hg,hn⟩] at a2;cases a2
 ·have:¬200<mostM f:=fun hq=>by rw[if_pos hq] at a3;cases a3
  unfold mostM mxI at this
  (repeat' split at this)<;>omega
theorem blk_len {w:List UInt8} {ls:List (List UInt8)} (hw:w.length≤100) (hl:ls.length≤200) (h:∀s∈ls,s.length≤2^23):(blkT w ls).length≤2^33:=by
 unfold blkT
 split
 ·simp
 ·have h1:=flat_row h
  have h2:=Nat.le_trans h1 (Nat.mul_le_mul_right _ hl)
  simp only[List.length_append,List.length_cons,List.length_nil]
  omega
theorem blk_step {α:Type} (o:Option (List UInt8)) (w:List UInt8) (L:List α) (line:α→List UInt8):∃o',(if L=[] then o else some (txt o++blkT w (L.map line)))=o'∧txt o'=txt o++blkT w (L.map line):=by
 refine⟨_,rfl,?_⟩
 split
 ·rename_i h;subst h;simp[blkT]
 ·rfl
theorem qdj (σ:List (List AV)) (x y:List AV):(σ++[x]).set σ.length y=σ++[y]:=by simp
theorem qmn {x:Rq} (h:shT (x.1,x.2.1)):(rqT x).length≤2^23:=by
 have:=qbb h
 unfold rqT
 split
 ·simp only[List.length_append,indT,List.length_cons,List.length_nil];omega
 ·omega
theorem qmo {x:Rp} (h1:shT x.1) (h2:shT x.2):(rpT x).length≤2^23:=by
 have:=qbb h1
 have:=qbb h2
 unfold rpT
 simp only[List.length_append,arT,List.length_cons,List.length_nil];omega
theorem qsh {x:Rt} (h:shT x):(rtT x).length≤2^23:=by
 obtain⟨h1,h2⟩:=h
 unfold rtT
 split
 ·omega
 ·simp only[List.length_append,List.length_cons,List.length_nil];omega
theorem qk3 (f:Mf) (hf:MfB f) (hs:MfS f) (σ:List (List AV)):ev 14 [mfF f] σ=some (.tup [.str (fmtP f).1,.int .i64 (fmtP f).2],σ):=by
 have hCk:=qky f hf
 have hCa:=qns f hf
 have hcs:=hs.canon
 have hP:fmtP f=if mfE f≠0 then ([],mfE f) else if 65536<(fmtM (canonM f)).length then ([],13) else (fmtM (canonM f),0):=rfl
 have hgd:=fun h:mfE f=0=>(qnu h).most
 have hlq:(canonM f).rq.length=f.rq.length:=qp _
 have hle:(canonM f).ex.length=f.ex.length:=qp _
 have hlp:(canonM f).rp.length=f.rp.length:=qp _
 have hlt:(canonM f).rt.length=f.rt.length:=qp _
 obtain⟨E,hE⟩:∃E,mfE f=E:=⟨_,rfl⟩
 rw[hE] at hCk hP hgd
 generalize fmtP f=R at *
 generalize canonM f=c at *
 obtain⟨m0,g0,rq0,ex0,rp0,rt0⟩:=f
 obtain⟨m,g,rq,ex,rp,rt⟩:=c
 simp only at hlq hle hlp hlt hgd
 rw[mfFx] at hCk hCa ⊢
 rw[mfFx] at hCa
 refine qk func14 ntmps14 ?_
 by_cases hE0:E=0
 ·subst hE0
  obtain⟨n1,n2,n3,n4⟩:=hgd rfl
  rw[if_neg (by simp)] at hP
  have hm:=hcs.m
  have hg:=hcs.g
  have hrq:=hcs.rq
  have hex:=hcs.ex
  have hrp:=hcs.rp
  have hrt:=hcs.rt
  simp only at hm hg hrq hex hrp hrt
  obtain⟨t0,ht0⟩:∃t,moT++m=t:=⟨_,rfl⟩
  obtain⟨t1,ht1⟩:∃t,t0++[10]=t:=⟨_,rfl⟩
  have l0:t0.length=m.length+7:=by rw[← ht0];simp[moT]<;>omega
  have l1:t1.length=m.length+8:=by rw[← ht1];simp[l0]
  have c0:7+m.length≤most:=by unfold most;omega
  have c0':m.length+7≤most:=by unfold most;omega
  have c1:t0.length+1≤most:=by unfold most;omega
  have hW1:=qd0 σ [] none t1 (by simp;unfold most;omega)
  simp only[txt_none,List.nil_append] at hW1
  obtain⟨u0,hu0⟩:∃t,gT++g=t:=⟨_,rfl⟩
  obtain⟨u1,hu1⟩:∃t,u0++[10]=t:=⟨_,rfl⟩
  have k0:u0.length=g.length+4:=by rw[← hu0];simp[gT]<;>omega
  have k1:u1.length=g.length+5:=by rw[← hu1];simp[k0]
  have d0:4+g.length≤most:=by unfold most;omega
  have d0':g.length+4≤most:=by unfold most;omega
  have d1:u0.length+1≤most:=by unfold most;omega
  have hW2:=qd0 σ [] (some t1) u1 (by simp;unfold most;omega)
  simp only[txt_some] at hW2
  obtain⟨t2,ht2⟩:∃t,t1++goL g=t:=⟨_,rfl⟩
  have l2:t2.length≤2^22:=by
   rw[← ht2,List.length_append]
   unfold goL
   split
   ·simp;omega
   ·simp only[List.length_append,gT,List.length_cons,List.length_nil];omega
  have b1:=blk_len (w:=rqWd) (ls:=rq.map rqT) (by decide) (by simp;omega) fun s hs=>by obtain⟨x,hx,rfl⟩:=List.mem_map.1 hs;exact qmn (hrq x hx)
  have b2:=blk_len (w:=exWd) (ls:=ex.map modT) (by decide) (by simp;omega) fun s hs=>by obtain⟨x,hx,rfl⟩:=List.mem_map.1 hs;have:=qbb (hex x hx);omega
  have b3:=blk_len (w:=rpWd) (ls:=rp.map rpT) (by decide) (by simp;omega) fun s hs=>by obtain⟨x,hx,rfl⟩:=List.mem_map.1 hs;exact qmo (hrp x hx).1 (hrp x hx).2
  have hB1:=qsd σ.length (some t2) (σ++[bc σ.length (some t2)]) (by simp) rqWd (by decide) rq (by omega) (by simp;omega) 43 (by decide) rqT fun x hx=>⟨qmn (hrq x hx),fun σ=>fmt1_eq x (hrq x hx) σ⟩
  obtain⟨o3,ho3,q3⟩:=blk_step (some t2) rqWd rq rqT
  rw[ho3,qdj] at hB1
  simp only[txt_some] at q3
  have z3:(txt o3).length≤2^34:=by rw[q3,List.length_append];omega
  have hB2:=qse σ.length o3 (σ++[bc σ.length o3]) (by simp) exWd (by decide) ex (by omega) (by omega) 44 (by decide) modT fun x hx=>⟨by have:=qbb (hex x hx);omega,fun σ=>text_eq x (hex x hx) σ⟩
  obtain⟨o4,ho4,q4⟩:=blk_step o3 exWd ex modT
  rw[ho4,qdj] at hB2
  have z4:(txt o4).length≤2^35:=by rw[q4,List.length_append];omega
  have hB3:=qsf σ.length o4 (σ++[bc σ.length o4]) (by simp) rpWd (by decide) rp (by omega) (by omega) 48 (by decide) rpT fun x hx=>⟨qmo (hrp x hx).1 (hrp x hx).2,fun σ=>fmt2_eq x (hrp x hx).1 (hrp x hx).2 σ⟩
  obtain⟨o5,ho5,q5⟩:=blk_step o4 rpWd rp rpT
  rw[ho5,qdj] at hB3
  have z5:(txt o5).length≤2^36:=by rw[q5,List.length_append];omega
  have hB4:=qsg σ.length o5 (σ++[bc σ.length o5]) (by simp) rtWd (by decide) rt (by omega) (by omega) 50 (by decide) rtT fun x hx=>⟨qsh (hrt x hx),fun σ=>fmt3_eq x (hrt x hx) σ⟩
  obtain⟨o6,ho6,q6⟩:=blk_step o5 rtWd rt rtT
  rw[ho6,qdj] at hB4
  have hfin:fmtM ⟨m,g,rq,ex,rp,rt⟩=txt o6:=by rw[q6,q5,q4,q3,← ht2,← ht1,← ht0];rfl
  rw[hfin] at hP
  have hL:=LenB σ.length (σ++[bc σ.length o6]) o6 (by simp)
  have hS:=quz σ.length (σ++[bc σ.length o6]) o6 (by simp)
  rw[qdj] at hS
  clear ho3 ho4 ho5 ho6
  have hgo:∀r,(r=if g=[] then t1 else t1++u1)→r=t2:=fun r hr=>by
   rw[hr,← ht2];unfold goL
   split
   ·simp
   ·rw[hu0,hu1]
  have hm0:109::111::100::117::108::101::32::m=t0:=ht0
  have hu0':10::103::111::32::g=u0:=hu0
  unfold moT at ht0
  unfold gT at hu0
  unfold rqWd at hB1
  unfold exWd at hB2
  unfold rpWd at hB3
  unfold rtWd at hB4
  have hb0:bc σ.length none=[.nilp,.sl .nil []]:=rfl
  rw[hb0] at hW1
  simp only[SB] at hW1 hW2 hB1 hB2 hB3 hB4 hL hS
  obtain⟨B1,hB1'⟩:∃B,bc σ.length (some t1)=B:=⟨_,rfl⟩
  rw[hB1'] at hW1 hW2
  obtain⟨B2,hB2'⟩:∃B,bc σ.length (some t2)=B:=⟨_,rfl⟩
  rw[hB2'] at hB1
  obtain⟨B3,hB3'⟩:∃B,bc σ.length o3=B:=⟨_,rfl⟩
  rw[hB3'] at hB1 hB2
  obtain⟨B4,hB4'⟩:∃B,bc σ.length o4=B:=⟨_,rfl⟩
  rw[hB4'] at hB2 hB3
  obtain⟨B5,hB5'⟩:∃B,bc σ.length o5=B:=⟨_,rfl⟩
  rw[hB5'] at hB3 hB4
  obtain⟨B6,hB6'⟩:∃B,bc σ.length o6=B:=⟨_,rfl⟩
  rw[hB6'] at hB4 hL hS
  obtain⟨S6,hS6⟩:∃B,bs σ.length o6=B:=⟨_,rfl⟩
  rw[hS6] at hS
  obtain⟨txt6,htx⟩:∃t,txt o6=t:=⟨_,rfl⟩
  rw[htx] at hL hS hP
  by_cases hg0:g=[]
  ·have hg1:(g==[])=true:=by simpa using hg0
   have e2:=hgo t1 (by rw[if_pos hg0])
   subst e2
   rw[hB1'] at hB2'
   subst hB2'
   by_cases hq:65536<txt6.length
   ·rw[if_pos hq] at hP
    simp (maxSteps:=mS) [-List.append_assoc,hCk,hCa,hg1,c0,c0',c1,ht0,hm0,ht1,hW1,hB1,hB2,hB3,hB4,hL,hq,hP,results14]
   ·rw[if_neg hq] at hP
    simp (maxSteps:=mS) [-List.append_assoc,hCk,hCa,hg1,c0,c0',c1,ht0,hm0,ht1,hW1,hB1,hB2,hB3,hB4,hL,hS,hq,hP,results14]
  ·have hg1:(g==[])=false:=by simpa using hg0
   have e2:=hgo (t1++u1) (by rw[if_neg hg0])
   rw[e2,hB2'] at hW2
   by_cases hq:65536<txt6.length
   ·rw[if_pos hq] at hP
    simp (maxSteps:=mS) [-List.append_assoc,hCk,hCa,hg1,c0,c0',c1,d0,d0',d1,ht0,hm0,ht1,hu0,hu0',hu1,hW1,hW2,hB1,hB2,hB3,hB4,hL,hq,hP,results14]
   ·rw[if_neg hq] at hP
    simp (maxSteps:=mS) [-List.append_assoc,hCk,hCa,hg1,c0,c0',c1,d0,d0',d1,ht0,hm0,ht1,hu0,hu0',hu1,hW1,hW2,hB1,hB2,hB3,hB4,hL,hS,hq,hP,results14]
 ·rw[if_pos hE0] at hP
  simp (maxSteps:=mS) [hCk,hE0,hP,results14]
end Go.Proofs.Tryz.Ai
end
section
namespace Go.Proofs.Tryz.Ai
open Go Go.AI Go.RowKit Go.Proofs
def parseTb:List AV→List (List AV)→Option (AV×List (List AV))
 | [.str t],s=>if smpB t=true then some (parseAV t,s) else none
 | _,_=>none
noncomputable def T1:Table:=fun f=>if f=9 then some parseTb else T f
theorem mixedT:prog.follows .mixedOrders=true:=by kernel_rfl
theorem T1_ok {W0:World} (hl:LaidAll W0):TableOk prog W0.heap.size W0 T1:=by
 intro f p hf xs s r s' e
 unfold T1 at hf
 split at hf
 ·rename_i h
  subst h
  injection hf with hf
  subst hf
  unfold parseTb at e
  split at e
  ·split at e
   ·rename_i hsm
    injection e with e
    injection e with e1 e2
    subst e1 e2
    exact⟨⟨_,func9,by kernel_rfl,by kernel_rfl⟩,qmm mixedT (T_ok hl) _ hsm _⟩
   ·cases e
  ·cases e
 ·exact T_ok hl f p hf xs s r s' e
noncomputable abbrev ev1:Oracle:=EV prog H T1
theorem TParse:T 9=some fun _ _=>none:=rfl
theorem lift {f:FuncId} {xs:List AV} {s:List (List AV)} {r:AV×List (List AV)} (h:ev f xs s=some r):ev1 f xs s=some r:=by
 refine qxz (fun f h=>?_) (fun f p h=>?_) h
 ·unfold T1
  split
  ·rename_i e;subst e;rw[TParse] at h;cases h
  ·exact h
 ·unfold T1
  split
  ·rename_i e;subst e;rw[TParse] at h;injection h with h;subst h;exact⟨_,rfl,fun _ _ _ e=>by cases e⟩
  ·exact⟨p,h,fun _ _ _ e=>e⟩
theorem qnv (t:List UInt8) (hsm:smpB t=true) (s:List (List AV)):ev1 9 [.str t] s=some (parseAV t,s):=(qao (P:=prog) (H:=H) (T:=T1) (f:=9) (p:=parseTb) (by rfl) [.str t] s).trans (if_pos hsm)
def exT:List UInt8:=[109,111,100,117,108,101,32,97,46,98,47,99,32,47,47,32,109,105,110,101,10,114,101,113,117,105,114,101,32,120,46,121,47,122,32,118,49,46,50,46,48,32,47,47,32,105,110,100,105,114,101,99,116,10]
def exM:Mf:=⟨[97,46,98,47,99],[],[([120,46,121,47,122],[118,49,46,50,46,48],true)],[],[],[]⟩
def exO:List UInt8:=[109,111,100,117,108,101,32,97,46,98,47,99,10,10,114,101,113,117,105,114,101,32,40,10,9,120,46,121,47,122,32,118,49,46,50,46,48,32,47,47,32,105,110,100,105,114,101,99,116,10,41,10]
def exU:List UInt8:=[109,111,100,117,108,101,32,97,46,98,47,99,10,109,111,100,117,108,101,32,97,46,98,47,99,10]
theorem qvo:parseP exT=.ok exM:=by kernel_rfl
theorem q1g:fmtP exM=(exO,0):=by kernel_rfl
theorem qvp:parseP exU=.error (2,12):=by kernel_rfl
theorem sm_T:smpB exT=true:=by kernel_rfl
theorem sm_U:smpB exU=true:=by kernel_rfl
theorem first_eq (σ:List (List AV)):ev1 8 [] σ=some (.bool true,σ):=by
 have h1:∀σ,ev1 9 [.str exT] σ=some (.tup [mfF exM,.int .i64 0,.int .i64 0],σ):=fun σ=>by rw[qnv _ sm_T];unfold parseAV;rw[qvo]
 have h2:∀σ,ev1 14 [mfF exM] σ=some (.tup [.str exO,.int .i64 0],σ):=fun σ=>by
  have:=lift (qk3 exM ⟨by decide,by decide,by decide,by decide,by decide,by decide,by simp[exM],by simp[exM],by simp[exM],by simp[exM]⟩ ⟨by decide,by decide,by simp[exM,shT],by simp[exM],by simp[exM],by simp[exM]⟩ σ)
  rw[q1g] at this
  exact this
 have h3:∀σ,ev1 9 [.str exU] σ=some (.tup [mfF mf0,.int .i64 2,.int .i64 12],σ):=fun σ=>by rw[qnv _ sm_U];unfold parseAV;rw[qvp]
 have hN:=fun e σ=>lift (qwq e σ)
 rw[mfFx] at h1 h2 h3
 simp only[exM,exT,exO,exU,mf0,List.map_cons,List.map_nil,rqF] at h1 h2 h3
 refine qk func8 ntmps8 ?_
 simp (maxSteps:=mS) [h1,h2,h3,hN,results8]
end Go.Proofs.Tryz.Ai
end
section
namespace Go.Proofs.Tryz.Ai
open Go Go.AI Go.Proofs
def blkJ (w:List UInt8) (ls:List (List UInt8)) (i:Nat) (t:List UInt8):Prop:=i≤ls.length∧t=[10]++w++[32,40,10]++(ls.take i).flatMap rowT
theorem qew (w:List UInt8) (hw:w.length≤100) (ls:List (List UInt8)) (hl:ls.length≤200) (h:∀s∈ls,s.length≤2^23) (σ:List (List AV)):ev 66 [.str w,.sl .sh (ls.map .str)] σ=some (.str (blkT w ls),σ):=by
 refine qk func66 ntmps66 ?_
 by_cases h0:ls=[]
 ·subst h0
  simp (maxSteps:=mS) [blkT,results66]
 ·have hLl:0<ls.length:=List.length_pos_iff.2 h0
  have hLn:¬ls.length=0:=by omega
  obtain⟨t0,ht0⟩:∃t,[10]++w=t:=⟨_,rfl⟩
  have ht0':10::w=t0:=ht0
  have l0:t0.length=w.length+1:=by rw[← ht0];simp
  obtain⟨t1,ht1⟩:∃t,t0++[32,40,10]=t:=⟨_,rfl⟩
  have l1:t1.length=w.length+4:=by rw[← ht1];simp[l0]
  have c0:1+w.length≤most:=by unfold most;omega
  have c0':w.length+1≤most:=by unfold most;omega
  have c1:t0.length+3≤most:=by unfold most;omega
  have hfin:blkT w ls=t1++ls.flatMap rowT++[41,10]:=by unfold blkT;rw[if_neg h0,← ht1,← ht0]
  simp (maxSteps:=mS) [-List.append_assoc,-Prod.exists,-Prod.forall,hLn,h0,c0,c0',c1,ht0,ht0',ht1]
  refine qf (I:=fun p:Nat×List UInt8=>⟨[(1,.sl .sh (ls.map .str)),(5,.str p.2),(6,.int .i64 p.1)],[],σ⟩)
   (Pr:=fun p=>blkJ w ls p.1 p.2) (μ:=fun p=>ls.length-p.1) (a:=(0,t1)) (by simp) ⟨by simp,by rw[← ht1,← ht0];simp⟩ ?_
  rintro⟨i,t⟩ ⟨hi,ht⟩
  simp only at hi ht ⊢
  rw[ht0,ht1] at ht
  have w1:=wr1 i (by omega)
  have htl:t.length≤2^38:=by
   have:=flat_row (ls:=ls.take i) fun s hs=>h s (List.mem_of_mem_take hs)
   have h2:(ls.take i).length≤200:=by simp;omega
   have h3:=Nat.le_trans this (Nat.mul_le_mul_right _ h2)
   rw[ht,List.length_append];omega
  by_cases hc:i<ls.length
  ·obtain⟨s,hx⟩:=getS hc
   have hsl:=h s (List.mem_of_getElem? hx)
   obtain⟨u0,hu0⟩:∃u,t++[9]=u:=⟨_,rfl⟩
   have k0:u0.length=t.length+1:=by rw[← hu0];simp
   obtain⟨u1,hu1⟩:∃u,u0++s=u:=⟨_,rfl⟩
   have k1:u1.length=t.length+1+s.length:=by rw[← hu1];simp[k0]
   obtain⟨u2,hu2⟩:∃u,u1++[10]=u:=⟨_,rfl⟩
   have d0:t.length+1≤most:=by unfold most;omega
   have d1:u0.length+s.length≤most:=by unfold most;omega
   have d2:u1.length+1≤most:=by unfold most;omega
   have hnx:blkJ w ls (i+1) u2:=⟨by omega,by rw[ht0,ht1,List.take_add_one,hx,List.flatMap_append,← List.append_assoc,← ht,← hu2,← hu1,← hu0];simp[rowT]⟩
   simp (maxSteps:=mS) [-getElem?_pos,-List.append_assoc,-Prod.exists,-Prod.forall,hc,hx,d0,d1,d2,hu0,hu1,hu2,w1]
   exact⟨(i+1,u2),hnx,by simp;omega,by simp⟩
  ·rw[List.take_of_length_le (by omega)] at ht
   rw[hfin,← ht]
   have d0:t.length+2≤most:=by unfold most;omega
   simp (maxSteps:=mS) [-List.append_assoc,hc,d0,results66]
theorem qfc {α:Type} {own:α→Int} {same:α→α→Bool}:∀{l a:List α},eachF own same a l=0→∀x∈l,own x=0
 | [],_,_=>by simp
 | x::r,a,h=>by
  rw[eachF,fstO2] at h
  obtain⟨h1,h2⟩:=qam h
  intro y hy
  rcases List.mem_cons.1 hy with rfl|hy
  ·exact (qam h1).1
  ·exact qfc h2 y hy
theorem qk8 {m:List UInt8}:∀{l a:List Rq},rqsF m a l=0→∀x∈l,checkB x.1 x.2.1=0
 | [],_,_=>by simp
 | x::r,a,h=>by
  rw[rqsF,fstO2] at h
  obtain⟨h1,h2⟩:=qam h
  intro y hy
  rcases List.mem_cons.1 hy with rfl|hy
  ·have:=(qam h1).1;omega
  ·exact qk8 h2 y hy
theorem qg6 {p v:List UInt8} (h:checkB p v=0):v≠[]:=by
 rintro rfl
 unfold checkB at h
 have hr:readB []=none:=by kernel_rfl
 by_cases hp:pathB p=0
 ·simp[hr,hp] at h
 ·simp[hr,hp] at h
theorem qpc (f:Mf) (hf:MfB f) (hs:MfS f) (σ:List (List AV)):ev 19 [mfF f] σ=some (.tup [.str (fmtP f).1,.int .i64 (fmtP f).2],σ):=by
 have hCk:=qih f hf
 have hCa:=qk7 f hf
 have hcs:=hs.canon
 have hP:fmtP f=if mfE f≠0 then ([],mfE f) else if 65536<(fmtM (canonM f)).length then ([],13) else (fmtM (canonM f),0):=rfl
 have hgd:=fun h:mfE f=0=>qnu h
 have hq1:∀x,x∈(canonM f).rq→x∈f.rq:=fun x hx=>qac.1 hx
 have hq2:∀x,x∈(canonM f).ex→x∈f.ex:=fun x hx=>qac.1 hx
 have hq3:∀x,x∈(canonM f).rp→x∈f.rp:=fun x hx=>qac.1 hx
 have hlq:(canonM f).rq.length=f.rq.length:=qp _
 have hle:(canonM f).ex.length=f.ex.length:=qp _
 have hlp:(canonM f).rp.length=f.rp.length:=qp _
 have hlt:(canonM f).rt.length=f.rt.length:=qp _
 obtain⟨E,hE⟩:∃E,mfE f=E:=⟨_,rfl⟩
 rw[hE] at hCk hP hgd
 generalize fmtP f=R at *
 generalize canonM f=c at *
 obtain⟨m0,g0,rq0,ex0,rp0,rt0⟩:=f
 obtain⟨m,g,rq,ex,rp,rt⟩:=c
 simp only at hlq hle hlp hlt hq1 hq2 hq3
 rw[mfFx] at hCk hCa ⊢
 rw[mfFx] at hCa
 refine qk func19 ntmps19 ?_
 by_cases hE0:E=0
 ·subst hE0
  have hgg:=hgd rfl
  obtain⟨n1,n2,n3,n4⟩:=hgg.most
  have hver1:∀x∈rq,x.2.1≠[]:=fun x hx=>qg6 (qk8 hgg.rq x (hq1 x hx))
  have hver2:∀x∈ex,x.2≠[]:=fun x hx=>qg6 (p:=x.1) (by have:=qfc hgg.ex x (hq2 x hx);omega)
  have hver3:∀x∈rp,x.2.2≠[]:=fun x hx=>qg6 (p:=x.2.1) (by
   have h1:rpE x=0:=qfc hgg.rp x (hq3 x hx)
   have h2:rpE x=fstE [fstE [(pathB x.1.1:Int),if x.1.2=[] then 0 else (checkB x.1.1 x.1.2:Int)],(checkB x.2.1 x.2.2:Int)]:=rfl
   rw[h2,fstO2] at h1
   have:=(qam h1).2;omega)
  simp only at n1 n2 n3 n4
  clear hgd hgg hq1 hq2 hq3
  rw[if_neg (by simp)] at hP
  have hm:=hcs.m
  have hg:=hcs.g
  have hrq:=hcs.rq
  have hex:=hcs.ex
  have hrp:=hcs.rp
  have hrt:=hcs.rt
  simp only at hm hg hrq hex hrp hrt
  obtain⟨t0,ht0⟩:∃t,moT++m=t:=⟨_,rfl⟩
  obtain⟨t1,ht1⟩:∃t,t0++[10]=t:=⟨_,rfl⟩
  have l0:t0.length=m.length+7:=by rw[← ht0];simp[moT]<;>omega
  have l1:t1.length=m.length+8:=by rw[← ht1];simp[l0]
  have c0:7+m.length≤most:=by unfold most;omega
  have c0':m.length+7≤most:=by unfold most;omega
  have c1:t0.length+1≤most:=by unfold most;omega
  obtain⟨u0,hu0⟩:∃t,t1++gT=t:=⟨_,rfl⟩
  obtain⟨u1,hu1⟩:∃t,u0++g=t:=⟨_,rfl⟩
  obtain⟨u2,hu2⟩:∃t,u1++[10]=t:=⟨_,rfl⟩
  have k0:u0.length=t1.length+4:=by rw[← hu0];simp[gT]
  have k1:u1.length=t1.length+4+g.length:=by rw[← hu1];simp[k0]
  have k2:u2.length=t1.length+4+g.length+1:=by rw[← hu2];simp[k1]
  have d0:t1.length+4≤most:=by unfold most;omega
  have d1:u0.length+g.length≤most:=by unfold most;omega
  have d2:u1.length+1≤most:=by unfold most;omega
  obtain⟨ZQ,hZQ⟩:∃Z,(rq.map rqT).map AV.str=Z:=⟨_,rfl⟩
  obtain⟨ZM,hZM⟩:∃Z,(ex.map modT).map AV.str=Z:=⟨_,rfl⟩
  obtain⟨ZP,hZP⟩:∃Z,(rp.map rpT).map AV.str=Z:=⟨_,rfl⟩
  obtain⟨ZT,hZT⟩:∃Z,(rt.map rtT).map AV.str=Z:=⟨_,rfl⟩
  have v1:∀s∈rq.map rqT,s.length≤2^23:=fun s hs=>by obtain⟨x,hx,rfl⟩:=List.mem_map.1 hs;exact qmn (hrq x hx)
  have v2:∀s∈ex.map modT,s.length≤2^23:=fun s hs=>by obtain⟨x,hx,rfl⟩:=List.mem_map.1 hs;have:=qbb (hex x hx);omega
  have v3:∀s∈rp.map rpT,s.length≤2^23:=fun s hs=>by obtain⟨x,hx,rfl⟩:=List.mem_map.1 hs;exact qmo (hrp x hx).1 (hrp x hx).2
  have v4:∀s∈rt.map rtT,s.length≤2^23:=fun s hs=>by obtain⟨x,hx,rfl⟩:=List.mem_map.1 hs;exact qsh (hrt x hx)
  have hB1:=qew rqWd (by decide) (rq.map rqT) (by simp;omega) v1
  have hB2:=qew exWd (by decide) (ex.map modT) (by simp;omega) v2
  have hB3:=qew rpWd (by decide) (rp.map rpT) (by simp;omega) v3
  have hB4:=qew rtWd (by decide) (rt.map rtT) (by simp;omega) v4
  have q1:=blk_len (w:=rqWd) (ls:=rq.map rqT) (by decide) (by simp;omega) v1
  have q2:=blk_len (w:=exWd) (ls:=ex.map modT) (by decide) (by simp;omega) v2
  have q3:=blk_len (w:=rpWd) (ls:=rp.map rpT) (by decide) (by simp;omega) v3
  have q4:=blk_len (w:=rtWd) (ls:=rt.map rtT) (by decide) (by simp;omega) v4
  rw[hZQ] at hB1
  rw[hZM] at hB2
  rw[hZP] at hB3
  rw[hZT] at hB4
  have hfm:fmtM ⟨m,g,rq,ex,rp,rt⟩=t1++goL g++blkT rqWd (rq.map rqT)++blkT exWd (ex.map modT)++blkT rpWd (rp.map rpT)++blkT rtWd (rt.map rtT):=by rw[← ht1,← ht0];rfl
  obtain⟨h,hh⟩:∃h,t1++goL g=h:=⟨_,rfl⟩
  have hgo:h=if g=[] then t1 else u2:=by
   rw[← hh];unfold goL
   split
   ·simp
   ·rw[← hu2,← hu1,← hu0];simp
  have hhl:h.length≤2^22:=by rw[hgo];split<;>omega
  rw[hh] at hfm
  generalize blkT rqWd (rq.map rqT)=B1 at *
  generalize blkT exWd (ex.map modT)=B2 at *
  generalize blkT rpWd (rp.map rpT)=B3 at *
  generalize blkT rtWd (rt.map rtT)=B4 at *
  obtain⟨p1,hp1⟩:∃p,h++B1=p:=⟨_,rfl⟩
  obtain⟨p2,hp2⟩:∃p,p1++B2=p:=⟨_,rfl⟩
  obtain⟨p3,hp3⟩:∃p,p2++B3=p:=⟨_,rfl⟩
  obtain⟨p4,hp4⟩:∃p,p3++B4=p:=⟨_,rfl⟩
  have e1:p1.length=h.length+B1.length:=by rw[← hp1];simp
  have e2:p2.length=h.length+B1.length+B2.length:=by rw[← hp2];simp[e1]
  have e3:p3.length=h.length+B1.length+B2.length+B3.length:=by rw[← hp3];simp[e2]
  rw[hp1,hp2,hp3,hp4] at hfm
  rw[hfm] at hP
  clear hfm hh
  have hm0:109::111::100::117::108::101::32::m=t0:=ht0
  unfold moT at ht0
  unfold gT at hu0
  unfold rqWd at hB1
  unfold exWd at hB2
  unfold rpWd at hB3
  unfold rtWd at hB4
  obtain⟨LQ,hLQ⟩:∃L,rq.map rqF=L:=⟨_,rfl⟩
  obtain⟨LM,hLM⟩:∃L,ex.map modA=L:=⟨_,rfl⟩
  obtain⟨LP,hLP⟩:∃L,rp.map rpF=L:=⟨_,rfl⟩
  obtain⟨LT,hLT⟩:∃L,rt.map rtF=L:=⟨_,rfl⟩
  have hmQ:LQ.length=rq.length:=by rw[← hLQ];simp
  have hmM:LM.length=ex.length:=by rw[← hLM];simp
  have hmP:LP.length=rp.length:=by rw[← hLP];simp
  have hmT:LT.length=rt.length:=by rw[← hLT];simp
  rw[hLQ,hLM,hLP,hLT] at hCa
  by_cases hg0:g=[]
  have hg1:(g==[])=true:=by simpa using hg0
  rw[if_pos hg0] at hgo
  rw[← hgo] at ht1
  simp (maxSteps:=mS) [-List.append_assoc,-Prod.exists,-Prod.forall,hCk,hCa,hg1,c0,c0',c1,ht0,hm0,ht1]
  rotate_left
  have hg1:(g==[])=false:=by simpa using hg0
  rw[if_neg hg0] at hgo
  rw[← hgo] at hu2
  simp (maxSteps:=mS) [-List.append_assoc,-Prod.exists,-Prod.forall,hCk,hCa,hg1,c0,c0',c1,d0,d1,d2,ht0,hm0,ht1,hu0,hu1,hu2]
  rotate_left
  all_goals
   refine qf (I:=fun i:Nat=>⟨[(1,.lp 1 0),(5,.str h),(6,.sl (.ex 9 1) (((rq.take i).map rqT).map .str)),(7,.sl (.ex 9 1) []),(8,.sl (.ex 9 1) []),(9,.sl (.ex 9 1) []),(10,.int .i64 i)],[(1,[.str m,.str g,.sl .sh LQ,.sl .sh LM,.sl .sh LP,.sl .sh LT])],σ⟩) (Pr:=fun i=>i≤rq.length) (μ:=fun i=>rq.length-i) (a:=0) (by simp) (by simp) ?_
   intro i hi
   have w1:=wr1 i (by omega)
   by_cases hc:i<rq.length
   ·have hcL:i<LQ.length:=by omega
    obtain⟨x,hx⟩:=getS hc
    have hnx:((rq.take (i+1)).map rqT).map AV.str=((rq.take i).map rqT).map AV.str++[.str (rqT x)]:=by rw[List.take_add_one,hx];simp
    obtain⟨Z,hZ⟩:∃Z,((rq.take i).map rqT).map AV.str=Z:=⟨_,rfl⟩
    have hzl:Z.length+1≤most:=by rw[← hZ];simp;unfold most;omega
    rw[hZ] at hnx ⊢
    obtain⟨x1,x2,x3⟩:=x
    have hxL:LQ[i]? = some (.agg [.str x1,.str x2,.bool x3]):=by rw[← hLQ,List.getElem?_map,hx];rfl
    have hv:x2≠[]:=hver1 _ (List.mem_of_getElem? hx)
    obtain⟨s1,s2⟩:=hrq _ (List.mem_of_getElem? hx)
    simp only at s1 s2 hv
    obtain⟨u0,hu0⟩:∃u,x1++[32]=u:=⟨_,rfl⟩
    have k0:u0.length=x1.length+1:=by rw[← hu0];simp
    obtain⟨u1,hu1⟩:∃u,u0++x2=u:=⟨_,rfl⟩
    have k1:u1.length=x1.length+1+x2.length:=by rw[← hu1];simp[k0]
    have hm:modT (x1,x2)=u1:=by unfold modT;rw[if_neg hv,hu0,hu1]
    have d0:x1.length+1≤most:=by unfold most;omega
    have d1:u0.length+x2.length≤most:=by unfold most;omega
    cases x3 with
    | false =>
     have hT:rqT (x1,x2,false)=u1:=by unfold rqT;rw[if_neg (by simp),hm]
     rw[hT] at hnx
     simp (maxSteps:=mS) [-getElem?_pos,-List.append_assoc,-Prod.exists,-Prod.forall,-qb,hcL]
     refine qg [] _ (k:=?_)
     repeat (first|refine qd _ (hs:=by simp (maxSteps:=mS) [-getElem?_pos,-List.append_assoc,hcL,hxL,d0,d1,hu0,hu1];exact rfl) (k:=?_)|refine qe _ (k:=?_))
     refine qc ?_
     simp (maxSteps:=mS) [-getElem?_pos,-List.append_assoc,-Prod.exists,-Prod.forall,hcL,hxL,hzl,w1]
     exact⟨i+1,by omega,by omega,by (simp at hnx);(simp[hnx])⟩
    | true =>
     obtain⟨u2,hu2⟩:∃u,u1++indT=u:=⟨_,rfl⟩
     have hT:rqT (x1,x2,true)=u2:=by unfold rqT;rw[if_pos rfl,hm,hu2]
     unfold indT at hu2
     have d2:u1.length+12≤most:=by unfold most;omega
     rw[hT] at hnx
     simp (maxSteps:=mS) [-getElem?_pos,-List.append_assoc,-Prod.exists,-Prod.forall,-qb,hcL]
     refine qg [] _ (k:=?_)
     repeat (first|refine qd _ (hs:=by simp (maxSteps:=mS) [-getElem?_pos,-List.append_assoc,hcL,hxL,d0,d1,hu0,hu1];exact rfl) (k:=?_)|refine qe _ (k:=?_))
     refine qc ?_
     simp (maxSteps:=mS) [-getElem?_pos,-List.append_assoc,-Prod.exists,-Prod.forall,hcL,hxL,hzl,d2,hu2,w1]
     exact⟨i+1,by omega,by omega,by (simp at hnx);(simp[hnx])⟩
   ·have hcL:¬i<LQ.length:=by omega
    rw[List.take_of_length_le (by omega),hZQ]
    simp (maxSteps:=mS) [-Prod.exists,-Prod.forall,hcL]
    refine qf (I:=fun i:Nat=>⟨[(1,.lp 1 0),(5,.str h),(6,.sl (.ex 9 1) ZQ),(7,.sl (.ex 9 1) (((ex.take i).map modT).map .str)),(8,.sl (.ex 9 1) []),(9,.sl (.ex 9 1) []),(12,.int .i64 i)],[(1,[.str m,.str g,.sl .sh LQ,.sl .sh LM,.sl .sh LP,.sl .sh LT])],σ⟩) (Pr:=fun i=>i≤ex.length) (μ:=fun i=>ex.length-i) (a:=0) (by simp) (by simp) ?_
    intro i hi
    have w1:=wr1 i (by omega)
    by_cases hc:i<ex.length
    ·have hcL:i<LM.length:=by omega
     obtain⟨x,hx⟩:=getS hc
     have hnx:((ex.take (i+1)).map modT).map AV.str=((ex.take i).map modT).map AV.str++[.str (modT x)]:=by rw[List.take_add_one,hx];simp
     obtain⟨Z,hZ⟩:∃Z,((ex.take i).map modT).map AV.str=Z:=⟨_,rfl⟩
     have hzl:Z.length+1≤most:=by rw[← hZ];simp;unfold most;omega
     rw[hZ] at hnx ⊢
     obtain⟨x1,x2⟩:=x
     have hxL:LM[i]? = some (.agg [.str x1,.str x2]):=by rw[← hLM,List.getElem?_map,hx];rfl
     have hv:x2≠[]:=hver2 _ (List.mem_of_getElem? hx)
     obtain⟨s1,s2⟩:=hex _ (List.mem_of_getElem? hx)
     simp only at s1 s2 hv
     obtain⟨u0,hu0⟩:∃u,x1++[32]=u:=⟨_,rfl⟩
     have k0:u0.length=x1.length+1:=by rw[← hu0];simp
     obtain⟨u1,hu1⟩:∃u,u0++x2=u:=⟨_,rfl⟩
     have hT:modT (x1,x2)=u1:=by unfold modT;rw[if_neg hv,hu0,hu1]
     have d0:x1.length+1≤most:=by unfold most;omega
     have d1:u0.length+x2.length≤most:=by unfold most;omega
     rw[hT] at hnx
     simp (maxSteps:=mS) [-getElem?_pos,-List.append_assoc,-Prod.exists,-Prod.forall,-qb,hcL]
     refine qg [] _ (k:=?_)
     repeat (first|refine qd _ (hs:=by simp (maxSteps:=mS) [-getElem?_pos,-List.append_assoc,hcL,hxL,hzl,d0,d1,hu0,hu1];exact rfl) (k:=?_)|refine qe _ (k:=?_))
     refine qc ?_
     simp (maxSteps:=mS) [-Prod.exists,-Prod.forall,w1]
     exact⟨i+1,by omega,by omega,by (simp at hnx);(simp[hnx])⟩
    ·have hcL:¬i<LM.length:=by omega
     rw[List.take_of_length_le (by omega),hZM]
     simp (maxSteps:=mS) [-Prod.exists,-Prod.forall,hcL]
     refine qf (I:=fun i:Nat=>⟨[(1,.lp 1 0),(5,.str h),(6,.sl (.ex 9 1) ZQ),(7,.sl (.ex 9 1) ZM),(8,.sl (.ex 9 1) (((rp.take i).map rpT).map .str)),(9,.sl (.ex 9 1) []),(13,.int .i64 i)],[(1,[.str m,.str g,.sl .sh LQ,.sl .sh LM,.sl .sh LP,.sl .sh LT])],σ⟩) (Pr:=fun i=>i≤rp.length) (μ:=fun i=>rp.length-i) (a:=0) (by simp) (by simp) ?_
     intro i hi
     have w1:=wr1 i (by omega)
     by_cases hc:i<rp.length
     ·have hcL:i<LP.length:=by omega
      obtain⟨x,hx⟩:=getS hc
      have hnx:((rp.take (i+1)).map rpT).map AV.str=((rp.take i).map rpT).map AV.str++[.str (rpT x)]:=by rw[List.take_add_one,hx];simp
      obtain⟨Z,hZ⟩:∃Z,((rp.take i).map rpT).map AV.str=Z:=⟨_,rfl⟩
      have hzl:Z.length+1≤most:=by rw[← hZ];simp;unfold most;omega
      rw[hZ] at hnx ⊢
      obtain⟨⟨x1,x2⟩,x3,x4⟩:=x
      have hxL:LP[i]? = some (.agg [.str x1,.str x2,.str x3,.str x4]):=by rw[← hLP,List.getElem?_map,hx];rfl
      have hv:x4≠[]:=hver3 _ (List.mem_of_getElem? hx)
      obtain⟨⟨s1,s2⟩,s3,s4⟩:=hrp _ (List.mem_of_getElem? hx)
      simp only at s1 s2 s3 s4 hv
      obtain⟨a,ha⟩:∃u,modT (x1,x2)=u:=⟨_,rfl⟩
      have hal:a.length≤2^21+1:=by rw[← ha];exact qbb ⟨s1,s2⟩
      obtain⟨u0,hu0⟩:∃u,a++arT=u:=⟨_,rfl⟩
      have k0:u0.length=a.length+4:=by rw[← hu0];simp[arT]
      obtain⟨u1,hu1⟩:∃u,u0++x3=u:=⟨_,rfl⟩
      have k1:u1.length=a.length+4+x3.length:=by rw[← hu1];simp[k0]
      obtain⟨u2,hu2⟩:∃u,u1++[32]=u:=⟨_,rfl⟩
      have k2:u2.length=a.length+4+x3.length+1:=by rw[← hu2];simp[k1]
      obtain⟨u3,hu3⟩:∃u,u2++x4=u:=⟨_,rfl⟩
      have hT:rpT ((x1,x2),x3,x4)=u3:=by
       have e2:modT (x3,x4)=x3++[32]++x4:=by unfold modT;rw[if_neg hv]
       unfold rpT;rw[e2,← hu3,← hu2,← hu1,← hu0,ha];simp
      unfold arT at hu0
      have d1:a.length+4≤most:=by unfold most;omega
      have d2:u0.length+x3.length≤most:=by unfold most;omega
      have d3:u1.length+1≤most:=by unfold most;omega
      have d4:u2.length+x4.length≤most:=by unfold most;omega
      rw[hT] at hnx
      by_cases h2:x2=[]
      ·have h2':(x2==[])=true:=by simpa using h2
       have ha':x1=a:=by rw[← ha];unfold modT;rw[if_pos h2]
       subst ha'
       simp (maxSteps:=mS) [-getElem?_pos,-List.append_assoc,-Prod.exists,-Prod.forall,hcL,hxL,hzl,h2',d1,d2,d3,d4,hu0,hu1,hu2,hu3,w1]
       exact⟨i+1,by omega,by omega,by (simp at hnx);(simp[hnx])⟩
      ·have h2':(x2==[])=false:=by simpa using h2
       obtain⟨v0,hv0⟩:∃u,x1++[32]=u:=⟨_,rfl⟩
       have ha':v0++x2=a:=by rw[← ha,← hv0];unfold modT;rw[if_neg h2]
       have j0:v0.length=x1.length+1:=by rw[← hv0];simp
       have e0:x1.length+1≤most:=by unfold most;omega
       have e1:v0.length+x2.length≤most:=by unfold most;omega
       simp (maxSteps:=mS) [-getElem?_pos,-List.append_assoc,-Prod.exists,-Prod.forall,hcL,hxL,hzl,h2',e0,e1,hv0,ha',d1,d2,d3,d4,hu0,hu1,hu2,hu3,w1]
       exact⟨i+1,by omega,by omega,by (simp at hnx);(simp[hnx])⟩
     ·have hcL:¬i<LP.length:=by omega
      rw[List.take_of_length_le (by omega),hZP]
      simp (maxSteps:=mS) [-Prod.exists,-Prod.forall,hcL]
      refine qf (I:=fun i:Nat=>⟨[(1,.lp 1 0),(5,.str h),(6,.sl (.ex 9 1) ZQ),(7,.sl (.ex 9 1) ZM),(8,.sl (.ex 9 1) ZP),(9,.sl (.ex 9 1) (((rt.take i).map rtT).map .str)),(16,.int .i64 i)],[(1,[.str m,.str g,.sl .sh LQ,.sl .sh LM,.sl .sh LP,.sl .sh LT])],σ⟩) (Pr:=fun i=>i≤rt.length) (μ:=fun i=>rt.length-i) (a:=0) (by simp) (by simp) ?_
      intro i hi
      have w1:=wr1 i (by omega)
      by_cases hc:i<rt.length
      ·have hcL:i<LT.length:=by omega
       obtain⟨x,hx⟩:=getS hc
       have hnx:((rt.take (i+1)).map rtT).map AV.str=((rt.take i).map rtT).map AV.str++[.str (rtT x)]:=by rw[List.take_add_one,hx];simp
       obtain⟨Z,hZ⟩:∃Z,((rt.take i).map rtT).map AV.str=Z:=⟨_,rfl⟩
       have hzl:Z.length+1≤most:=by rw[← hZ];simp;unfold most;omega
       rw[hZ] at hnx ⊢
       obtain⟨x1,x2⟩:=x
       have hxL:LT[i]? = some (.agg [.str x1,.str x2]):=by rw[← hLT,List.getElem?_map,hx];rfl
       obtain⟨s1,s2⟩:=hrt _ (List.mem_of_getElem? hx)
       simp only at s1 s2
       obtain⟨u0,hu0⟩:∃u,[91]++x1=u:=⟨_,rfl⟩
       have hu0':91::x1=u0:=hu0
       have k0:u0.length=x1.length+1:=by rw[← hu0];simp
       obtain⟨u1,hu1⟩:∃u,u0++[44,32]=u:=⟨_,rfl⟩
       have k1:u1.length=x1.length+3:=by rw[← hu1];simp[k0]
       obtain⟨u2,hu2⟩:∃u,u1++x2=u:=⟨_,rfl⟩
       have k2:u2.length=x1.length+3+x2.length:=by rw[← hu2];simp[k1]
       obtain⟨u3,hu3⟩:∃u,u2++[93]=u:=⟨_,rfl⟩
       have d0:1+x1.length≤most:=by unfold most;omega
       have d0':x1.length+1≤most:=by unfold most;omega
       have d1:u0.length+2≤most:=by unfold most;omega
       have d2:u1.length+x2.length≤most:=by unfold most;omega
       have d3:u2.length+1≤most:=by unfold most;omega
       by_cases he:x1=x2
       ·have he':(x1==x2)=true:=by simpa using he
        have hT:rtT (x1,x2)=x1:=by unfold rtT;rw[if_pos he]
        rw[hT] at hnx
        simp (maxSteps:=mS) [-getElem?_pos,-List.append_assoc,-beq_iff_eq,-Prod.exists,-Prod.forall,hcL,hxL,hzl,he',d0,d0',d1,d2,d3,hu0,hu0',hu1,hu2,hu3,w1]
        exact⟨i+1,by omega,by omega,by (simp at hnx);(simp[hnx])⟩
       ·have he':(x1==x2)=false:=by simpa using he
        have hT:rtT (x1,x2)=u3:=by unfold rtT;rw[if_neg he,← hu3,← hu2,← hu1,← hu0]
        rw[hT] at hnx
        simp (maxSteps:=mS) [-getElem?_pos,-List.append_assoc,-beq_eq_false_iff_ne,-Prod.exists,-Prod.forall,hcL,hxL,hzl,he',d0,d0',d1,d2,d3,hu0,hu0',hu1,hu2,hu3,w1]
        exact⟨i+1,by omega,by omega,by (simp at hnx);(simp[hnx])⟩
      ·have hcL:¬i<LT.length:=by omega
       rw[List.take_of_length_le (by omega),hZT]
       have b1:h.length+B1.length≤most:=by unfold most;omega
       have b2:p1.length+B2.length≤most:=by unfold most;omega
       have b3:p2.length+B3.length≤most:=by unfold most;omega
       have b4:p3.length+B4.length≤most:=by unfold most;omega
       by_cases hq:65536<p4.length
       ·rw[if_pos hq] at hP
        simp (maxSteps:=mS) [-List.append_assoc,hcL,hB1,hB2,hB3,hB4,b1,b2,b3,b4,hp1,hp2,hp3,hp4,hq,hP,results19]
       ·rw[if_neg hq] at hP
        simp (maxSteps:=mS) [-List.append_assoc,hcL,hB1,hB2,hB3,hB4,b1,b2,b3,b4,hp1,hp2,hp3,hp4,hq,hP,results19]
 ·rw[if_pos hE0] at hP
  simp (maxSteps:=mS) [hCk,hE0,hP,results19]
end Go.Proofs.Tryz.Ai
end
