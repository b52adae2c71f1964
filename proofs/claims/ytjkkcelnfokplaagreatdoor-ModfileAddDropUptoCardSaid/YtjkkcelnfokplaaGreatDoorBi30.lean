/- Part 30 of a proof: Go functions are evaluated on abstract values; no conditions beyond those of each theorem. -/
import Derived.Test.YtjkkcelnfokplaaGreatDoorBi4
import Derived.Test.YtjkkcelnfokplaaGreatDoorBi29
set_option linter.all false
set_option maxHeartbeats 16000000
set_option maxRecDepth 4000
section
namespace Go.Proofs.Tryz.Ai
open Go Go.AI Go.Proofs
def modT (m:List UInt8×List UInt8):List UInt8:=if m.2=[] then m.1 else m.1++[32]++m.2
def indT:List UInt8:=[32,47,47,32,105,110,100,105,114,101,99,116]
def rqT (x:Rq):List UInt8:=if x.2.2 then modT (x.1,x.2.1)++indT else modT (x.1,x.2.1)
def arT:List UInt8:=[32,61,62,32]
def rpT (x:Rp):List UInt8:=modT x.1++arT++modT x.2
def rtT (x:Rt):List UInt8:=if x.1=x.2 then x.1 else [91]++x.1++[44,32]++x.2++[93]
def shT (m:List UInt8×List UInt8):Prop:=m.1.length≤2^20∧m.2.length≤2^20
theorem qbx {m:List UInt8×List UInt8} (h:shT m):(modT m).length≤2^21+1:=by
 obtain⟨h1,h2⟩:=h
 unfold modT
 split
 ·omega
 ·simp;omega
theorem text_eq (m:List UInt8×List UInt8) (h:shT m) (σ):ev 44 [modA m] σ=some (.str (modT m),σ):=by
 obtain⟨m1,m2⟩:=m
 obtain⟨h1,h2⟩:=h
 simp only at h1 h2
 rw[modAx]
 refine qh func44 ntmps44 ?_
 by_cases hv:m2=[]
 ·have hv':(m2==[])=true:=by simpa using hv
  have hT:modT (m1,m2)=m1:=by unfold modT;rw[if_pos hv]
  simp (maxSteps:=mS) [hv',hT,results44]
 ·have hv':(m2==[])=false:=by simpa using hv
  have hT:modT (m1,m2)=m1++[32]++m2:=by unfold modT;rw[if_neg hv]
  obtain⟨t1,ht1⟩:∃t,m1++[32]=t:=⟨_,rfl⟩
  have l1:t1.length=m1.length+1:=by rw[← ht1];simp
  have b1:m1.length+1≤most:=by unfold most;omega
  have b2:t1.length+m2.length≤most:=by unfold most;omega
  rw[ht1] at hT
  simp (maxSteps:=mS) [-List.append_assoc,hv',b1,ht1,b2,hT,results44]
theorem fmt1_eq (x:Rq) (h:shT (x.1,x.2.1)) (σ):ev 43 [rqF x] σ=some (.str (rqT x),σ):=by
 have hof:=qun x
 have ht:=text_eq (x.1,x.2.1) h
 have hl:=qbx h
 obtain⟨x1,x2,x3⟩:=x
 simp only at ht hl
 have hT:rqT (x1,x2,x3)=if x3 then modT (x1,x2)++indT else modT (x1,x2):=rfl
 obtain⟨t,htt⟩:∃t,modT (x1,x2)=t:=⟨_,rfl⟩
 rw[htt] at ht hl hT
 have b1:t.length+12≤most:=by unfold most;omega
 rw[rqFx] at hof ⊢
 rw[modAx] at ht hof
 refine qh func43 ntmps43 ?_
 cases x3 with
 | true =>
  rw[if_pos rfl] at hT
  obtain⟨u,hu⟩:∃u,t++indT=u:=⟨_,rfl⟩
  rw[hu] at hT
  unfold indT at hu
  simp (maxSteps:=mS) [hof,ht,b1,hu,hT,results43]
 | false =>
  rw[if_neg (by simp)] at hT
  simp (maxSteps:=mS) [hof,ht,hT,results43]
theorem fmt2_eq (x:Rp) (h1:shT x.1) (h2:shT x.2) (σ):ev 48 [rpF x] σ=some (.str (rpT x),σ):=by
 have ht1:=text_eq x.1 h1
 have ht2:=text_eq x.2 h2
 have hl1:=qbx h1
 have hl2:=qbx h2
 have hT:rpT x=modT x.1++arT++modT x.2:=rfl
 obtain⟨⟨x1,x2⟩,x3,x4⟩:=x
 simp only at ht1 ht2 hl1 hl2 hT
 obtain⟨a,ha⟩:∃t,modT (x1,x2)=t:=⟨_,rfl⟩
 obtain⟨b,hb⟩:∃t,modT (x3,x4)=t:=⟨_,rfl⟩
 rw[ha] at ht1 hl1 hT
 rw[hb] at ht2 hl2 hT
 obtain⟨u,hu⟩:∃u,a++arT=u:=⟨_,rfl⟩
 have hul:u.length=a.length+4:=by rw[← hu];simp[arT]
 rw[hu] at hT
 unfold arT at hu
 have b1:a.length+4≤most:=by unfold most;omega
 have b2:u.length+b.length≤most:=by unfold most;omega
 rw[rpFx]
 rw[modAx] at ht1 ht2
 refine qh func48 ntmps48 ?_
 simp (maxSteps:=mS) [-qb]
 refine qk [] _ (k:=?_)
 repeat (first|refine qd _ (hs:=by simp (maxSteps:=mS) [-List.append_assoc,ht1,ht2,b1,b2,hu];exact rfl) (k:=?_)|refine qe _ (k:=?_))
 refine qc ?_
 simp (maxSteps:=mS) [-List.append_assoc,hT,hu,results48]
theorem fmt3_eq (x:Rt) (h:shT x) (σ):ev 50 [rtF x] σ=some (.str (rtT x),σ):=by
 obtain⟨x1,x2⟩:=x
 obtain⟨h1,h2⟩:=h
 simp only at h1 h2
 have hT:rtT (x1,x2)=if x1=x2 then x1 else [91]++x1++[44,32]++x2++[93]:=rfl
 rw[rtFx]
 refine qh func50 ntmps50 ?_
 by_cases he:x1=x2
 ·rw[if_pos he] at hT
  have he':(x1==x2)=true:=by simpa using he
  simp (maxSteps:=mS) [-beq_iff_eq,he',hT,results50]
 ·rw[if_neg he] at hT
  have he':(x1==x2)=false:=by simpa using he
  obtain⟨t1,ht1⟩:∃t,[91]++x1=t:=⟨_,rfl⟩
  have l1:t1.length=x1.length+1:=by rw[← ht1];simp
  have ht1':91::x1=t1:=ht1
  obtain⟨t2,ht2⟩:∃t,t1++[44,32]=t:=⟨_,rfl⟩
  have l2:t2.length=x1.length+3:=by rw[← ht2];simp[l1]
  obtain⟨t3,ht3⟩:∃t,t2++x2=t:=⟨_,rfl⟩
  have l3:t3.length=x1.length+3+x2.length:=by rw[← ht3];simp[l2]
  obtain⟨t4,ht4⟩:∃t,t3++[93]=t:=⟨_,rfl⟩
  rw[ht1,ht2,ht3,ht4] at hT
  have b1:x1.length+1≤most:=by unfold most;omega
  have b1':1+x1.length≤most:=by unfold most;omega
  have b2:t1.length+2≤most:=by unfold most;omega
  have b3:t2.length+x2.length≤most:=by unfold most;omega
  have b4:t3.length+1≤most:=by unfold most;omega
  simp (maxSteps:=mS) [-List.append_assoc,-beq_eq_false_iff_ne,he',b1,b1',b2,b3,b4,ht1,ht1',ht2,ht3,ht4,hT,results50]
def rowT (s:List UInt8):List UInt8:=[9]++s++[10]
def blkT (w:List UInt8) (ls:List (List UInt8)):List UInt8:=if ls=[] then [] else [10]++w++[32,40,10]++ls.flatMap rowT++[41,10]
theorem flat_row:∀{ls:List (List UInt8)},(∀s∈ls,s.length≤2^23)→(ls.flatMap rowT).length≤ls.length*2^24
 | [],_=>by simp
 | s::r,h=>by
  have h1:=h s (List.mem_cons_self ..)
  have h2:=flat_row (ls:=r) fun y hy=>h y (List.mem_cons_of_mem _ hy)
  rw[List.flatMap_cons,List.length_append,List.length_cons]
  have:(rowT s).length=s.length+2:=by simp[rowT]
  omega
def blkI {α:Type} (L:List α) (line:α→List UInt8) (a:List UInt8) (i:Nat) (t:List UInt8):Prop:=i≤L.length∧t=a++((L.map line).take i).flatMap rowT
theorem qre (b:Nat) (o:Option (List UInt8)) (σ:List (List AV)) (hb:σ[b]? = some (bc b o)) (w:List UInt8) (hw:w.length≤100) (L:List (Rq)) (hL:L.length≤200) (ho:(txt o).length≤2^36) (g:FuncId) (hg:g<100000) (line:Rq→List UInt8)
  (h:∀x∈L,(line x).length≤2^23∧∀σ,ev g [rqF x] σ=some (.str (line x),σ)) :
  ev 42 [.gp b 0 (some (SB,2)),.str w,.sl .sh (L.map rqF),.fn g []] σ=some (.tup [],σ.set b (bc b (if L=[] then o else some (txt o++blkT w (L.map line))))):=by
 have hbl:=(List.getElem?_eq_some_iff.1 hb).1
 refine qh func42 ntmps42 ?_
 by_cases h0:L=[]
 ·subst h0
  have hs:σ.set b (bc b o)=σ:=List.ext_getElem? fun i=>by
   rw[List.getElem?_set]
   split
   ·rename_i e;subst e;first|exact hb.symm|simp[hbl,hb]
   ·rfl
  rw[if_pos rfl,hs]
  simp (maxSteps:=mS) [results42]
 ·have hLl:0<L.length:=List.length_pos_iff.2 h0
  have hLn:¬L.length=0:=by omega
  rw[if_neg h0]
  obtain⟨t0,ht0⟩:∃t,[10]++w=t:=⟨_,rfl⟩
  have ht0':10::w=t0:=ht0
  have l0:t0.length=w.length+1:=by rw[← ht0];simp
  obtain⟨t1,ht1⟩:∃t,t0++[32,40,10]=t:=⟨_,rfl⟩
  have l1:t1.length=w.length+4:=by rw[← ht1];simp[l0]
  have c0:1+w.length≤most:=by unfold most;omega
  have c0':w.length+1≤most:=by unfold most;omega
  have c1:t0.length+3≤most:=by unfold most;omega
  have hW1:=qy b σ o t1 (by unfold most;omega) hb
  obtain⟨a,ha⟩:∃a,txt o++t1=a:=⟨_,rfl⟩
  have hal:a.length≤2^37:=by rw[← ha];simp;omega
  rw[ha] at hW1
  have hfin:txt o++blkT w (L.map line)=a++(L.map line).flatMap rowT++[41,10]:=by
   unfold blkT
   rw[if_neg (by simpa using h0),← ha,← ht1,← ht0];simp
  have hall:allCells 3 (L.map rqF):=by simp
  simp only[SB] at hW1 ⊢
  simp (maxSteps:=mS) [-List.append_assoc,-Prod.exists,-Prod.forall,hLn,h0,c0,c0',c1,ht0,ht0',ht1,hW1]
  refine qj (I:=fun p:Nat×List UInt8=>⟨[(0,.gp b 0 (some (101,2))),(3,.fn g []),(18,.sl .sh (L.map rqF)),(19,.int .i64 L.length),(20,.int .i64 p.1)],[],σ.set b (bc b (some p.2))⟩)
   (Pr:=fun p=>blkI L line a p.1 p.2) (μ:=fun p=>L.length-p.1) (a:=(0,a)) (by simp) ⟨by simp,by simp⟩ ?_
  rintro⟨i,t⟩ ⟨hi,ht⟩
  simp only at hi ht ⊢
  have w1:=wr1 i (by omega)
  have htl:t.length≤2^38:=by
   have:=flat_row (ls:=(L.map line).take i) fun s hs=>by
    obtain⟨x,hx,rfl⟩:=List.mem_map.1 (List.mem_of_mem_take hs)
    exact (h x hx).1
   have h2:((L.map line).take i).length≤200:=by simp;omega
   have h3:=Nat.le_trans this (Nat.mul_le_mul_right _ h2)
   rw[ht,List.length_append];omega
  have hbt:(σ.set b (bc b (some t)))[b]? = some (bc b (some t)):=qc3 hbl _
  by_cases hc:i<L.length
  ·obtain⟨x,hx⟩:=getS hc
   obtain⟨hll,hE⟩:=h x (List.mem_of_getElem? hx)
   have hnx:blkI L line a (i+1) (t++rowT (line x)):=⟨by omega,by
    rw[ht,List.take_add_one,List.getElem?_map,hx,List.flatMap_append];simp⟩
   obtain⟨s,hs⟩:∃s,line x=s:=⟨_,rfl⟩
   rw[hs] at hll hE hnx
   clear hs
   obtain⟨x1,x2,x3⟩:=x
   rw[rqFx] at hE
   obtain⟨u0,hu0⟩:∃u,[9]++s=u:=⟨_,rfl⟩
   have hu0':9::s=u0:=hu0
   have k0:u0.length=s.length+1:=by rw[← hu0];simp
   obtain⟨u1,hu1⟩:∃u,u0++[10]=u:=⟨_,rfl⟩
   have k1:u1.length=s.length+2:=by rw[← hu1];simp[k0]
   have d0:1+s.length≤most:=by unfold most;omega
   have d0':s.length+1≤most:=by unfold most;omega
   have d1:u0.length+1≤most:=by unfold most;omega
   have hrw:rowT s=u1:=by unfold rowT;rw[hu0,hu1]
   rw[hrw] at hnx
   have hW:=qy b (σ.set b (bc b (some t))) (some t) u1 (by simp only[txt_some];unfold most;omega) hbt
   simp only[txt_some,List.set_set,SB] at hW
   obtain⟨t',ht'⟩:∃t',t++u1=t':=⟨_,rfl⟩
   rw[ht'] at hW hnx
   simp (maxSteps:=mS) [-getElem?_pos,-List.append_assoc,-Prod.exists,-Prod.forall,hc,hx,rqFx,hg,hE,d0,d0',d1,hu0,hu0',hu1,hW,w1]
   exact⟨(i+1,t'),hnx,by simp;omega,by simp⟩
  ·have hie:(L.map line).take i=L.map line:=List.take_of_length_le (by simp;omega)
   rw[hie] at ht
   have hW:=qy b (σ.set b (bc b (some t))) (some t) [41,10] (by simp only[txt_some];unfold most;simp;omega) hbt
   simp only[txt_some,List.set_set,SB] at hW
   rw[hfin,← ht]
   obtain⟨t',ht'⟩:∃t',t++[41,10]=t':=⟨_,rfl⟩
   rw[ht'] at hW ⊢
   simp (maxSteps:=mS) [-List.append_assoc,hc,hW,results42]
   rw[qo (qdz (by simp only[qig];exact .inr hbl))]
theorem qrf (b:Nat) (o:Option (List UInt8)) (σ:List (List AV)) (hb:σ[b]? = some (bc b o)) (w:List UInt8) (hw:w.length≤100) (L:List (List UInt8×List UInt8)) (hL:L.length≤200) (ho:(txt o).length≤2^36) (g:FuncId) (hg:g<100000) (line:List UInt8×List UInt8→List UInt8)
  (h:∀x∈L,(line x).length≤2^23∧∀σ,ev g [modA x] σ=some (.str (line x),σ)) :
  ev 46 [.gp b 0 (some (SB,2)),.str w,.sl .sh (L.map modA),.fn g []] σ=some (.tup [],σ.set b (bc b (if L=[] then o else some (txt o++blkT w (L.map line))))):=by
 have hbl:=(List.getElem?_eq_some_iff.1 hb).1
 refine qh func46 ntmps46 ?_
 by_cases h0:L=[]
 ·subst h0
  have hs:σ.set b (bc b o)=σ:=List.ext_getElem? fun i=>by
   rw[List.getElem?_set]
   split
   ·rename_i e;subst e;first|exact hb.symm|simp[hbl,hb]
   ·rfl
  rw[if_pos rfl,hs]
  simp (maxSteps:=mS) [results46]
 ·have hLl:0<L.length:=List.length_pos_iff.2 h0
  have hLn:¬L.length=0:=by omega
  rw[if_neg h0]
  obtain⟨t0,ht0⟩:∃t,[10]++w=t:=⟨_,rfl⟩
  have ht0':10::w=t0:=ht0
  have l0:t0.length=w.length+1:=by rw[← ht0];simp
  obtain⟨t1,ht1⟩:∃t,t0++[32,40,10]=t:=⟨_,rfl⟩
  have l1:t1.length=w.length+4:=by rw[← ht1];simp[l0]
  have c0:1+w.length≤most:=by unfold most;omega
  have c0':w.length+1≤most:=by unfold most;omega
  have c1:t0.length+3≤most:=by unfold most;omega
  have hW1:=qy b σ o t1 (by unfold most;omega) hb
  obtain⟨a,ha⟩:∃a,txt o++t1=a:=⟨_,rfl⟩
  have hal:a.length≤2^37:=by rw[← ha];simp;omega
  rw[ha] at hW1
  have hfin:txt o++blkT w (L.map line)=a++(L.map line).flatMap rowT++[41,10]:=by
   unfold blkT
   rw[if_neg (by simpa using h0),← ha,← ht1,← ht0];simp
  have hall:allCells 2 (L.map modA):=by simp
  simp only[SB] at hW1 ⊢
  simp (maxSteps:=mS) [-List.append_assoc,-Prod.exists,-Prod.forall,hLn,h0,c0,c0',c1,ht0,ht0',ht1,hW1]
  refine qj (I:=fun p:Nat×List UInt8=>⟨[(0,.gp b 0 (some (101,2))),(3,.fn g []),(18,.sl .sh (L.map modA)),(19,.int .i64 L.length),(20,.int .i64 p.1)],[],σ.set b (bc b (some p.2))⟩)
   (Pr:=fun p=>blkI L line a p.1 p.2) (μ:=fun p=>L.length-p.1) (a:=(0,a)) (by simp) ⟨by simp,by simp⟩ ?_
  rintro⟨i,t⟩ ⟨hi,ht⟩
  simp only at hi ht ⊢
  have w1:=wr1 i (by omega)
  have htl:t.length≤2^38:=by
   have:=flat_row (ls:=(L.map line).take i) fun s hs=>by
    obtain⟨x,hx,rfl⟩:=List.mem_map.1 (List.mem_of_mem_take hs)
    exact (h x hx).1
   have h2:((L.map line).take i).length≤200:=by simp;omega
   have h3:=Nat.le_trans this (Nat.mul_le_mul_right _ h2)
   rw[ht,List.length_append];omega
  have hbt:(σ.set b (bc b (some t)))[b]? = some (bc b (some t)):=qc3 hbl _
  by_cases hc:i<L.length
  ·obtain⟨x,hx⟩:=getS hc
   obtain⟨hll,hE⟩:=h x (List.mem_of_getElem? hx)
   have hnx:blkI L line a (i+1) (t++rowT (line x)):=⟨by omega,by
    rw[ht,List.take_add_one,List.getElem?_map,hx,List.flatMap_append];simp⟩
   obtain⟨s,hs⟩:∃s,line x=s:=⟨_,rfl⟩
   rw[hs] at hll hE hnx
   clear hs
   obtain⟨x1,x2⟩:=x
   rw[modAx] at hE
   obtain⟨u0,hu0⟩:∃u,[9]++s=u:=⟨_,rfl⟩
   have hu0':9::s=u0:=hu0
   have k0:u0.length=s.length+1:=by rw[← hu0];simp
   obtain⟨u1,hu1⟩:∃u,u0++[10]=u:=⟨_,rfl⟩
   have k1:u1.length=s.length+2:=by rw[← hu1];simp[k0]
   have d0:1+s.length≤most:=by unfold most;omega
   have d0':s.length+1≤most:=by unfold most;omega
   have d1:u0.length+1≤most:=by unfold most;omega
   have hrw:rowT s=u1:=by unfold rowT;rw[hu0,hu1]
   rw[hrw] at hnx
   have hW:=qy b (σ.set b (bc b (some t))) (some t) u1 (by simp only[txt_some];unfold most;omega) hbt
   simp only[txt_some,List.set_set,SB] at hW
   obtain⟨t',ht'⟩:∃t',t++u1=t':=⟨_,rfl⟩
   rw[ht'] at hW hnx
   simp (maxSteps:=mS) [-getElem?_pos,-List.append_assoc,-Prod.exists,-Prod.forall,hc,hx,modAx,hg,hE,d0,d0',d1,hu0,hu0',hu1,hW,w1]
   exact⟨(i+1,t'),hnx,by simp;omega,by simp⟩
  ·have hie:(L.map line).take i=L.map line:=List.take_of_length_le (by simp;omega)
   rw[hie] at ht
   have hW:=qy b (σ.set b (bc b (some t))) (some t) [41,10] (by simp only[txt_some];unfold most;simp;omega) hbt
   simp only[txt_some,List.set_set,SB] at hW
   rw[hfin,← ht]
   obtain⟨t',ht'⟩:∃t',t++[41,10]=t':=⟨_,rfl⟩
   rw[ht'] at hW ⊢
   simp (maxSteps:=mS) [-List.append_assoc,hc,hW,results46]
   rw[qo (qdz (by simp only[qig];exact .inr hbl))]
theorem qrg (b:Nat) (o:Option (List UInt8)) (σ:List (List AV)) (hb:σ[b]? = some (bc b o)) (w:List UInt8) (hw:w.length≤100) (L:List (Rp)) (hL:L.length≤200) (ho:(txt o).length≤2^36) (g:FuncId) (hg:g<100000) (line:Rp→List UInt8)
  (h:∀x∈L,(line x).length≤2^23∧∀σ,ev g [rpF x] σ=some (.str (line x),σ)) :
  ev 47 [.gp b 0 (some (SB,2)),.str w,.sl .sh (L.map rpF),.fn g []] σ=some (.tup [],σ.set b (bc b (if L=[] then o else some (txt o++blkT w (L.map line))))):=by
 have hbl:=(List.getElem?_eq_some_iff.1 hb).1
 refine qh func47 ntmps47 ?_
 by_cases h0:L=[]
 ·subst h0
  have hs:σ.set b (bc b o)=σ:=List.ext_getElem? fun i=>by
   rw[List.getElem?_set]
   split
   ·rename_i e;subst e;first|exact hb.symm|simp[hbl,hb]
   ·rfl
  rw[if_pos rfl,hs]
  simp (maxSteps:=mS) [results47]
 ·have hLl:0<L.length:=List.length_pos_iff.2 h0
  have hLn:¬L.length=0:=by omega
  rw[if_neg h0]
  obtain⟨t0,ht0⟩:∃t,[10]++w=t:=⟨_,rfl⟩
  have ht0':10::w=t0:=ht0
  have l0:t0.length=w.length+1:=by rw[← ht0];simp
  obtain⟨t1,ht1⟩:∃t,t0++[32,40,10]=t:=⟨_,rfl⟩
  have l1:t1.length=w.length+4:=by rw[← ht1];simp[l0]
  have c0:1+w.length≤most:=by unfold most;omega
  have c0':w.length+1≤most:=by unfold most;omega
  have c1:t0.length+3≤most:=by unfold most;omega
  have hW1:=qy b σ o t1 (by unfold most;omega) hb
  obtain⟨a,ha⟩:∃a,txt o++t1=a:=⟨_,rfl⟩
  have hal:a.length≤2^37:=by rw[← ha];simp;omega
  rw[ha] at hW1
  have hfin:txt o++blkT w (L.map line)=a++(L.map line).flatMap rowT++[41,10]:=by
   unfold blkT
   rw[if_neg (by simpa using h0),← ha,← ht1,← ht0];simp
  have hall:allCells 4 (L.map rpF):=by simp
  simp only[SB] at hW1 ⊢
  simp (maxSteps:=mS) [-List.append_assoc,-Prod.exists,-Prod.forall,hLn,h0,c0,c0',c1,ht0,ht0',ht1,hW1]
  refine qj (I:=fun p:Nat×List UInt8=>⟨[(0,.gp b 0 (some (101,2))),(3,.fn g []),(18,.sl .sh (L.map rpF)),(19,.int .i64 L.length),(20,.int .i64 p.1)],[],σ.set b (bc b (some p.2))⟩)
   (Pr:=fun p=>blkI L line a p.1 p.2) (μ:=fun p=>L.length-p.1) (a:=(0,a)) (by simp) ⟨by simp,by simp⟩ ?_
  rintro⟨i,t⟩ ⟨hi,ht⟩
  simp only at hi ht ⊢
  have w1:=wr1 i (by omega)
  have htl:t.length≤2^38:=by
   have:=flat_row (ls:=(L.map line).take i) fun s hs=>by
    obtain⟨x,hx,rfl⟩:=List.mem_map.1 (List.mem_of_mem_take hs)
    exact (h x hx).1
   have h2:((L.map line).take i).length≤200:=by simp;omega
   have h3:=Nat.le_trans this (Nat.mul_le_mul_right _ h2)
   rw[ht,List.length_append];omega
  have hbt:(σ.set b (bc b (some t)))[b]? = some (bc b (some t)):=qc3 hbl _
  by_cases hc:i<L.length
  ·obtain⟨x,hx⟩:=getS hc
   obtain⟨hll,hE⟩:=h x (List.mem_of_getElem? hx)
   have hnx:blkI L line a (i+1) (t++rowT (line x)):=⟨by omega,by
    rw[ht,List.take_add_one,List.getElem?_map,hx,List.flatMap_append];simp⟩
   obtain⟨s,hs⟩:∃s,line x=s:=⟨_,rfl⟩
   rw[hs] at hll hE hnx
   clear hs
   obtain⟨⟨x1,x2⟩,x3,x4⟩:=x
   rw[rpFx] at hE
   obtain⟨u0,hu0⟩:∃u,[9]++s=u:=⟨_,rfl⟩
   have hu0':9::s=u0:=hu0
   have k0:u0.length=s.length+1:=by rw[← hu0];simp
   obtain⟨u1,hu1⟩:∃u,u0++[10]=u:=⟨_,rfl⟩
   have k1:u1.length=s.length+2:=by rw[← hu1];simp[k0]
   have d0:1+s.length≤most:=by unfold most;omega
   have d0':s.length+1≤most:=by unfold most;omega
   have d1:u0.length+1≤most:=by unfold most;omega
   have hrw:rowT s=u1:=by unfold rowT;rw[hu0,hu1]
   rw[hrw] at hnx
   have hW:=qy b (σ.set b (bc b (some t))) (some t) u1 (by simp only[txt_some];unfold most;omega) hbt
   simp only[txt_some,List.set_set,SB] at hW
   obtain⟨t',ht'⟩:∃t',t++u1=t':=⟨_,rfl⟩
   rw[ht'] at hW hnx
   simp (maxSteps:=mS) [-getElem?_pos,-List.append_assoc,-Prod.exists,-Prod.forall,hc,hx,rpFx,hg,hE,d0,d0',d1,hu0,hu0',hu1,hW,w1]
   exact⟨(i+1,t'),hnx,by simp;omega,by simp⟩
  ·have hie:(L.map line).take i=L.map line:=List.take_of_length_le (by simp;omega)
   rw[hie] at ht
   have hW:=qy b (σ.set b (bc b (some t))) (some t) [41,10] (by simp only[txt_some];unfold most;simp;omega) hbt
   simp only[txt_some,List.set_set,SB] at hW
   rw[hfin,← ht]
   obtain⟨t',ht'⟩:∃t',t++[41,10]=t':=⟨_,rfl⟩
   rw[ht'] at hW ⊢
   simp (maxSteps:=mS) [-List.append_assoc,hc,hW,results47]
   rw[qo (qdz (by simp only[qig];exact .inr hbl))]
theorem qrh (b:Nat) (o:Option (List UInt8)) (σ:List (List AV)) (hb:σ[b]? = some (bc b o)) (w:List UInt8) (hw:w.length≤100) (L:List (Rt)) (hL:L.length≤200) (ho:(txt o).length≤2^36) (g:FuncId) (hg:g<100000) (line:Rt→List UInt8)
  (h:∀x∈L,(line x).length≤2^23∧∀σ,ev g [rtF x] σ=some (.str (line x),σ)) :
  ev 49 [.gp b 0 (some (SB,2)),.str w,.sl .sh (L.map rtF),.fn g []] σ=some (.tup [],σ.set b (bc b (if L=[] then o else some (txt o++blkT w (L.map line))))):=by
 have hbl:=(List.getElem?_eq_some_iff.1 hb).1
 refine qh func49 ntmps49 ?_
 by_cases h0:L=[]
 ·subst h0
  have hs:σ.set b (bc b o)=σ:=List.ext_getElem? fun i=>by
   rw[List.getElem?_set]
   split
   ·rename_i e;subst e;first|exact hb.symm|simp[hbl,hb]
   ·rfl
  rw[if_pos rfl,hs]
  simp (maxSteps:=mS) [results49]
 ·have hLl:0<L.length:=List.length_pos_iff.2 h0
  have hLn:¬L.length=0:=by omega
  rw[if_neg h0]
  obtain⟨t0,ht0⟩:∃t,[10]++w=t:=⟨_,rfl⟩
  have ht0':10::w=t0:=ht0
  have l0:t0.length=w.length+1:=by rw[← ht0];simp
  obtain⟨t1,ht1⟩:∃t,t0++[32,40,10]=t:=⟨_,rfl⟩
  have l1:t1.length=w.length+4:=by rw[← ht1];simp[l0]
  have c0:1+w.length≤most:=by unfold most;omega
  have c0':w.length+1≤most:=by unfold most;omega
  have c1:t0.length+3≤most:=by unfold most;omega
  have hW1:=qy b σ o t1 (by unfold most;omega) hb
  obtain⟨a,ha⟩:∃a,txt o++t1=a:=⟨_,rfl⟩
  have hal:a.length≤2^37:=by rw[← ha];simp;omega
  rw[ha] at hW1
  have hfin:txt o++blkT w (L.map line)=a++(L.map line).flatMap rowT++[41,10]:=by
   unfold blkT
   rw[if_neg (by simpa using h0),← ha,← ht1,← ht0];simp
  have hall:allCells 2 (L.map rtF):=by simp
  simp only[SB] at hW1 ⊢
  simp (maxSteps:=mS) [-List.append_assoc,-Prod.exists,-Prod.forall,hLn,h0,c0,c0',c1,ht0,ht0',ht1,hW1]
  refine qj (I:=fun p:Nat×List UInt8=>⟨[(0,.gp b 0 (some (101,2))),(3,.fn g []),(18,.sl .sh (L.map rtF)),(19,.int .i64 L.length),(20,.int .i64 p.1)],[],σ.set b (bc b (some p.2))⟩)
   (Pr:=fun p=>blkI L line a p.1 p.2) (μ:=fun p=>L.length-p.1) (a:=(0,a)) (by simp) ⟨by simp,by simp⟩ ?_
  rintro⟨i,t⟩ ⟨hi,ht⟩
  simp only at hi ht ⊢
  have w1:=wr1 i (by omega)
  have htl:t.length≤2^38:=by
   have:=flat_row (ls:=(L.map line).take i) fun s hs=>by
    obtain⟨x,hx,rfl⟩:=List.mem_map.1 (List.mem_of_mem_take hs)
    exact (h x hx).1
   have h2:((L.map line).take i).length≤200:=by simp;omega
   have h3:=Nat.le_trans this (Nat.mul_le_mul_right _ h2)
   rw[ht,List.length_append];omega
  have hbt:(σ.set b (bc b (some t)))[b]? = some (bc b (some t)):=qc3 hbl _
  by_cases hc:i<L.length
  ·obtain⟨x,hx⟩:=getS hc
   obtain⟨hll,hE⟩:=h x (List.mem_of_getElem? hx)
   have hnx:blkI L line a (i+1) (t++rowT (line x)):=⟨by omega,by
    rw[ht,List.take_add_one,List.getElem?_map,hx,List.flatMap_append];simp⟩
   obtain⟨s,hs⟩:∃s,line x=s:=⟨_,rfl⟩
   rw[hs] at hll hE hnx
   clear hs
   obtain⟨x1,x2⟩:=x
   rw[rtFx] at hE
   obtain⟨u0,hu0⟩:∃u,[9]++s=u:=⟨_,rfl⟩
   have hu0':9::s=u0:=hu0
   have k0:u0.length=s.length+1:=by rw[← hu0];simp
   obtain⟨u1,hu1⟩:∃u,u0++[10]=u:=⟨_,rfl⟩
   have k1:u1.length=s.length+2:=by rw[← hu1];simp[k0]
   have d0:1+s.length≤most:=by unfold most;omega
   have d0':s.length+1≤most:=by unfold most;omega
   have d1:u0.length+1≤most:=by unfold most;omega
   have hrw:rowT s=u1:=by unfold rowT;rw[hu0,hu1]
   rw[hrw] at hnx
   have hW:=qy b (σ.set b (bc b (some t))) (some t) u1 (by simp only[txt_some];unfold most;omega) hbt
   simp only[txt_some,List.set_set,SB] at hW
   obtain⟨t',ht'⟩:∃t',t++u1=t':=⟨_,rfl⟩
   rw[ht'] at hW hnx
   simp (maxSteps:=mS) [-getElem?_pos,-List.append_assoc,-Prod.exists,-Prod.forall,hc,hx,rtFx,hg,hE,d0,d0',d1,hu0,hu0',hu1,hW,w1]
   exact⟨(i+1,t'),hnx,by simp;omega,by simp⟩
  ·have hie:(L.map line).take i=L.map line:=List.take_of_length_le (by simp;omega)
   rw[hie] at ht
   have hW:=qy b (σ.set b (bc b (some t))) (some t) [41,10] (by simp only[txt_some];unfold most;simp;omega) hbt
   simp only[txt_some,List.set_set,SB] at hW
   rw[hfin,← ht]
   obtain⟨t',ht'⟩:∃t',t++[41,10]=t':=⟨_,rfl⟩
   rw[ht'] at hW ⊢
   simp (maxSteps:=mS) [-List.append_assoc,hc,hW,results49]
   rw[qo (qdz (by simp only[qig];exact .inr hbl))]
end Go.Proofs.Tryz.Ai
end
section
namespace Go.Proofs.Tryz.Ai
open Go Go.AI Go.Proofs
theorem LenB (b:Nat) (σ:List (List AV)) (o:Option (List UInt8)) (hb:σ[b]? = some (bc b o)) :
  ev 51 [.gp b 0 (some (SB,2))] σ=some (.int .i64 (txt o).length,σ):=by
 refine qh func51 ntmps51 ?_
 cases o with
 | none =>
  simp only[bc,txt_none] at hb ⊢
  simp (maxSteps:=mS) (disch:=omega) [dT,dF,ql,-getElem?_pos,List.getElem?_cons_zero,List.getElem?_cons_succ,hb,results51,SB,U8]
 | some l =>
  simp only[bc,txt_some] at hb ⊢
  simp (maxSteps:=mS) (disch:=omega) [dT,dF,ql,-getElem?_pos,List.getElem?_cons_zero,List.getElem?_cons_succ,hb,results51,SB,U8]
def moT:List UInt8:=[109,111,100,117,108,101,32]
def gT:List UInt8:=[10,103,111,32]
def goL (g:List UInt8):List UInt8:=if g=[] then [] else gT++g++[10]
def rqWd:List UInt8:=[114,101,113,117,105,114,101]
def exWd:List UInt8:=[101,120,99,108,117,100,101]
def rpWd:List UInt8:=[114,101,112,108,97,99,101]
def rtWd:List UInt8:=[114,101,116,114,97,99,116]
def fmtM (f:Mf):List UInt8:=moT++f.m++[10]++goL f.g++blkT rqWd (f.rq.map rqT)++blkT exWd (f.ex.map modT)++blkT rpWd (f.rp.map rpT)++blkT rtWd (f.rt.map rtT)
def fmtP (f:Mf):List UInt8×Int:=if mfE f≠0 then ([],mfE f) else if 65536<(fmtM (canonM f)).length then ([],13) else (fmtM (canonM f),0)
structure MfS (f:Mf):Prop where
 m:f.m.length≤2^20
 g:f.g.length≤2^20
 rq:∀x∈f.rq,shT (x.1,x.2.1)
 ex:∀x∈f.ex,shT x
 rp:∀x∈f.rp,shT x.1∧shT x.2
 rt:∀x∈f.rt,shT x
theorem MfS.canon {f:Mf} (h:MfS f):MfS (canonM f):=⟨h.m,h.g,fun x hx=>h.rq x (q9.1 hx),fun x hx=>h.ex x (q9.1 hx),fun x hx=>h.rp x (q9.1 hx),fun x hx=>h.rt x (q9.1 hx)⟩
theorem qa3 {a b:Int} (h:orI a b=0):a=0∧b=0:=by
 unfold orI at h
 split at h
 ·exact⟨by assumption,h⟩
 ·exact absurd h (by assumption)
structure MfG (f:Mf):Prop where
 path:pathB f.m=0
 go:f.g=[]∨minorB f.g≠none
 most:f.rq.length≤200∧f.ex.length≤200∧f.rp.length≤200∧f.rt.length≤200
 rq:rqsF f.m [] f.rq=0
 ex:eachE (fun x=>(checkB x.1 x.2:Int)) isM f.ex=0
 rp:eachE rpE (fun x y=>isM x.1 y.1) f.rp=0
 rt:eachE rtE isM f.rt=0
theorem qmf {f:Mf} (h:mfE f=0):MfG f:=by
 obtain⟨h1,h2⟩:=qa3 h
 obtain⟨h2,h3⟩:=qa3 h2
 obtain⟨a1,a2⟩:=qa3 h1
 obtain⟨a2,a3⟩:=qa3 a2
 obtain⟨a3,_⟩:=qa3 a3
 obtain⟨b1,b2⟩:=qa3 h3
 obtain⟨b2,b3⟩:=qa3 b2
 obtain⟨b3,_⟩:=qa3 b3
 refine⟨by omega,?_,?_,h2,b1,b2,b3⟩
 ·by_cases hg:f.g=[]
  ·exact .inl hg
  ·right;intro hn
   rw[if_pos ⟨hg,hn⟩] at a2;cases a2
 ·have:¬200<mostM f:=fun hq=>by rw[if_pos hq] at a3;cases a3
  unfold mostM mxI at this
  (repeat' split at this)<;>omega
theorem blk_len {w:List UInt8} {ls:List (List UInt8)} (hw:w.length≤100) (hl:ls.length≤200) (h:∀s∈ls,s.length≤2^23):(blkT w ls).length≤2^33:=by
 unfold blkT
 split
 ·simp
 ·have h1:=flat_row h
  have h2:=Nat.le_trans h1 (Nat.mul_le_mul_right _ hl)
  simp only[List.length_append,List.length_cons,List.length_nil]
  omega
theorem blk_step {α:Type} (o:Option (List UInt8)) (w:List UInt8) (L:List α) (line:α→List UInt8):∃o',(if L=[] then o else some (txt o++blkT w (L.map line)))=o'∧txt o'=txt o++blkT w (L.map line):=by
 refine⟨_,rfl,?_⟩
 split
 ·rename_i h;subst h;simp[blkT]
 ·rfl
theorem qc4 (σ:List (List AV)) (x y:List AV):(σ++[x]).set σ.length y=σ++[y]:=by simp
theorem qri {x:Rq} (h:shT (x.1,x.2.1)):(rqT x).length≤2^23:=by
 have:=qbx h
 unfold rqT
 split
 ·simp only[List.length_append,indT,List.length_cons,List.length_nil];omega
 ·omega
theorem qrj {x:Rp} (h1:shT x.1) (h2:shT x.2):(rpT x).length≤2^23:=by
 have:=qbx h1
 have:=qbx h2
 unfold rpT
 simp only[List.length_append,arT,List.length_cons,List.length_nil];omega
theorem qyh {x:Rt} (h:shT x):(rtT x).length≤2^23:=by
 obtain⟨h1,h2⟩:=h
 unfold rtT
 split
 ·omega
 ·simp only[List.length_append,List.length_cons,List.length_nil];omega
theorem qrk (f:Mf) (hf:MfB f) (hs:MfS f) (σ:List (List AV)):ev 14 [mfF f] σ=some (.tup [.str (fmtP f).1,.int .i64 (fmtP f).2],σ):=by
 have hCk:=qj5 f hf
 have hCa:=qd8 f hf
 have hcs:=hs.canon
 have hP:fmtP f=if mfE f≠0 then ([],mfE f) else if 65536<(fmtM (canonM f)).length then ([],13) else (fmtM (canonM f),0):=rfl
 have hgd:=fun h:mfE f=0=>(qmf h).most
 have hlq:(canonM f).rq.length=f.rq.length:=qv _
 have hle:(canonM f).ex.length=f.ex.length:=qv _
 have hlp:(canonM f).rp.length=f.rp.length:=qv _
 have hlt:(canonM f).rt.length=f.rt.length:=qv _
 obtain⟨E,hE⟩:∃E,mfE f=E:=⟨_,rfl⟩
 rw[hE] at hCk hP hgd
 generalize fmtP f=R at *
 generalize canonM f=c at *
 obtain⟨m0,g0,rq0,ex0,rp0,rt0⟩:=f
 obtain⟨m,g,rq,ex,rp,rt⟩:=c
 simp only at hlq hle hlp hlt hgd
 rw[mfFx] at hCk hCa ⊢
 rw[mfFx] at hCa
 refine qh func14 ntmps14 ?_
 by_cases hE0:E=0
 ·subst hE0
  obtain⟨n1,n2,n3,n4⟩:=hgd rfl
  rw[if_neg (by simp)] at hP
  have hm:=hcs.m
  have hg:=hcs.g
  have hrq:=hcs.rq
  have hex:=hcs.ex
  have hrp:=hcs.rp
  have hrt:=hcs.rt
  simp only at hm hg hrq hex hrp hrt
  obtain⟨t0,ht0⟩:∃t,moT++m=t:=⟨_,rfl⟩
  obtain⟨t1,ht1⟩:∃t,t0++[10]=t:=⟨_,rfl⟩
  have l0:t0.length=m.length+7:=by rw[← ht0];simp[moT]<;>omega
  have l1:t1.length=m.length+8:=by rw[← ht1];simp[l0]
  have c0:7+m.length≤most:=by unfold most;omega
  have c0':m.length+7≤most:=by unfold most;omega
  have c1:t0.length+1≤most:=by unfold most;omega
  have hW1:=qdj σ [] none t1 (by simp;unfold most;omega)
  simp only[txt_none,List.nil_append] at hW1
  obtain⟨u0,hu0⟩:∃t,gT++g=t:=⟨_,rfl⟩
  obtain⟨u1,hu1⟩:∃t,u0++[10]=t:=⟨_,rfl⟩
  have k0:u0.length=g.length+4:=by rw[← hu0];simp[gT]<;>omega
  have k1:u1.length=g.length+5:=by rw[← hu1];simp[k0]
  have d0:4+g.length≤most:=by unfold most;omega
  have d0':g.length+4≤most:=by unfold most;omega
  have d1:u0.length+1≤most:=by unfold most;omega
  have hW2:=qdj σ [] (some t1) u1 (by simp;unfold most;omega)
  simp only[txt_some] at hW2
  obtain⟨t2,ht2⟩:∃t,t1++goL g=t:=⟨_,rfl⟩
  have l2:t2.length≤2^22:=by
   rw[← ht2,List.length_append]
   unfold goL
   split
   ·simp;omega
   ·simp only[List.length_append,gT,List.length_cons,List.length_nil];omega
  have b1:=blk_len (w:=rqWd) (ls:=rq.map rqT) (by decide) (by simp;omega) fun s hs=>by obtain⟨x,hx,rfl⟩:=List.mem_map.1 hs;exact qri (hrq x hx)
  have b2:=blk_len (w:=exWd) (ls:=ex.map modT) (by decide) (by simp;omega) fun s hs=>by obtain⟨x,hx,rfl⟩:=List.mem_map.1 hs;have:=qbx (hex x hx);omega
  have b3:=blk_len (w:=rpWd) (ls:=rp.map rpT) (by decide) (by simp;omega) fun s hs=>by obtain⟨x,hx,rfl⟩:=List.mem_map.1 hs;exact qrj (hrp x hx).1 (hrp x hx).2
  have hB1:=qre σ.length (some t2) (σ++[bc σ.length (some t2)]) (by simp) rqWd (by decide) rq (by omega) (by simp;omega) 43 (by decide) rqT fun x hx=>⟨qri (hrq x hx),fun σ=>fmt1_eq x (hrq x hx) σ⟩
  obtain⟨o3,ho3,q3⟩:=blk_step (some t2) rqWd rq rqT
  rw[ho3,qc4] at hB1
  simp only[txt_some] at q3
  have z3:(txt o3).length≤2^34:=by rw[q3,List.length_append];omega
  have hB2:=qrf σ.length o3 (σ++[bc σ.length o3]) (by simp) exWd (by decide) ex (by omega) (by omega) 44 (by decide) modT fun x hx=>⟨by have:=qbx (hex x hx);omega,fun σ=>text_eq x (hex x hx) σ⟩
  obtain⟨o4,ho4,q4⟩:=blk_step o3 exWd ex modT
  rw[ho4,qc4] at hB2
  have z4:(txt o4).length≤2^35:=by rw[q4,List.length_append];omega
  have hB3:=qrg σ.length o4 (σ++[bc σ.length o4]) (by simp) rpWd (by decide) rp (by omega) (by omega) 48 (by decide) rpT fun x hx=>⟨qrj (hrp x hx).1 (hrp x hx).2,fun σ=>fmt2_eq x (hrp x hx).1 (hrp x hx).2 σ⟩
  obtain⟨o5,ho5,q5⟩:=blk_step o4 rpWd rp rpT
  rw[ho5,qc4] at hB3
  have z5:(txt o5).length≤2^36:=by rw[q5,List.length_append];omega
  have hB4:=qrh σ.length o5 (σ++[bc σ.length o5]) (by simp) rtWd (by decide) rt (by omega) (by omega) 50 (by decide) rtT fun x hx=>⟨qyh (hrt x hx),fun σ=>fmt3_eq x (hrt x hx) σ⟩
  obtain⟨o6,ho6,q6⟩:=blk_step o5 rtWd rt rtT
  rw[ho6,qc4] at hB4
  have hfin:fmtM ⟨m,g,rq,ex,rp,rt⟩=txt o6:=by rw[q6,q5,q4,q3,← ht2,← ht1,← ht0];rfl
  rw[hfin] at hP
  have hL:=LenB σ.length (σ++[bc σ.length o6]) o6 (by simp)
  have hS:=qt8 σ.length (σ++[bc σ.length o6]) o6 (by simp)
  rw[qc4] at hS
  clear ho3 ho4 ho5 ho6
  have hgo:∀r,(r=if g=[] then t1 else t1++u1)→r=t2:=fun r hr=>by
   rw[hr,← ht2];unfold goL
   split
   ·simp
   ·rw[hu0,hu1]
  have hm0:109::111::100::117::108::101::32::m=t0:=ht0
  have hu0':10::103::111::32::g=u0:=hu0
  unfold moT at ht0
  unfold gT at hu0
  unfold rqWd at hB1
  unfold exWd at hB2
  unfold rpWd at hB3
  unfold rtWd at hB4
  have hb0:bc σ.length none=[.nilp,.sl .nil []]:=rfl
  rw[hb0] at hW1
  simp only[SB] at hW1 hW2 hB1 hB2 hB3 hB4 hL hS
  obtain⟨B1,hB1'⟩:∃B,bc σ.length (some t1)=B:=⟨_,rfl⟩
  rw[hB1'] at hW1 hW2
  obtain⟨B2,hB2'⟩:∃B,bc σ.length (some t2)=B:=⟨_,rfl⟩
  rw[hB2'] at hB1
  obtain⟨B3,hB3'⟩:∃B,bc σ.length o3=B:=⟨_,rfl⟩
  rw[hB3'] at hB1 hB2
  obtain⟨B4,hB4'⟩:∃B,bc σ.length o4=B:=⟨_,rfl⟩
  rw[hB4'] at hB2 hB3
  obtain⟨B5,hB5'⟩:∃B,bc σ.length o5=B:=⟨_,rfl⟩
  rw[hB5'] at hB3 hB4
  obtain⟨B6,hB6'⟩:∃B,bc σ.length o6=B:=⟨_,rfl⟩
  rw[hB6'] at hB4 hL hS
  obtain⟨S6,hS6⟩:∃B,bs σ.length o6=B:=⟨_,rfl⟩
  rw[hS6] at hS
  obtain⟨txt6,htx⟩:∃t,txt o6=t:=⟨_,rfl⟩
  rw[htx] at hL hS hP
  by_cases hg0:g=[]
  ·have hg1:(g==[])=true:=by simpa using hg0
   have e2:=hgo t1 (by rw[if_pos hg0])
   subst e2
   rw[hB1'] at hB2'
   subst hB2'
   by_cases hq:65536<txt6.length
   ·rw[if_pos hq] at hP
    simp (maxSteps:=mS) [-List.append_assoc,hCk,hCa,hg1,c0,c0',c1,ht0,hm0,ht1,hW1,hB1,hB2,hB3,hB4,hL,hq,hP,results14]
   ·rw[if_neg hq] at hP
    simp (maxSteps:=mS) [-List.append_assoc,hCk,hCa,hg1,c0,c0',c1,ht0,hm0,ht1,hW1,hB1,hB2,hB3,hB4,hL,hS,hq,hP,results14]
  ·have hg1:(g==[])=false:=by simpa using hg0
   have e2:=hgo (t1++u1) (by rw[if_neg hg0])
   rw[e2,hB2'] at hW2
   by_cases hq:65536<txt6.length
   ·rw[if_pos hq] at hP
    simp (maxSteps:=mS) [-List.append_assoc,hCk,hCa,hg1,c0,c0',c1,d0,d0',d1,ht0,hm0,ht1,hu0,hu0',hu1,hW1,hW2,hB1,hB2,hB3,hB4,hL,hq,hP,results14]
   ·rw[if_neg hq] at hP
    simp (maxSteps:=mS) [-List.append_assoc,hCk,hCa,hg1,c0,c0',c1,d0,d0',d1,ht0,hm0,ht1,hu0,hu0',hu1,hW1,hW2,hB1,hB2,hB3,hB4,hL,hS,hq,hP,results14]
 ·rw[if_pos hE0] at hP
  simp (maxSteps:=mS) [hCk,hE0,hP,results14]
end Go.Proofs.Tryz.Ai
end
section
namespace Go.Proofs.Tryz.Ai
open Go Go.AI Go.RowKit Go.Proofs
def parseTb:List AV→List (List AV)→Option (AV×List (List AV))
 | [.str t],s=>if smpB t=true then some (parseAV t,s) else none
 | _,_=>none
noncomputable def T1:Table:=fun f=>if f=9 then some parseTb else T f
theorem mixedT:prog.follows .mixedOrders=true:=by kernel_rfl
theorem T1_ok {W0:World} (hl:LaidAll W0):TableOk prog W0.heap.size W0 T1:=by
 intro f p hf xs s r s' e
 unfold T1 at hf
 split at hf
 ·rename_i h
  subst h
  injection hf with hf
  subst hf
  unfold parseTb at e
  split at e
  ·split at e
   ·rename_i hsm
    injection e with e
    injection e with e1 e2
    subst e1 e2
    exact⟨⟨_,func9,by kernel_rfl,by kernel_rfl⟩,qli mixedT (T_ok hl) _ hsm _⟩
   ·cases e
  ·cases e
 ·exact T_ok hl f p hf xs s r s' e
noncomputable abbrev ev1:Oracle:=EV prog H T1
theorem TParse:T 9=some fun _ _=>none:=rfl
theorem lift {f:FuncId} {xs:List AV} {s:List (List AV)} {r:AV×List (List AV)} (h:ev f xs s=some r):ev1 f xs s=some r:=by
 refine qxj (fun f h=>?_) (fun f p h=>?_) h
 ·unfold T1
  split
  ·rename_i e;subst e;rw[TParse] at h;cases h
  ·exact h
 ·unfold T1
  split
  ·rename_i e;subst e;rw[TParse] at h;injection h with h;subst h;exact⟨_,rfl,fun _ _ _ e=>by cases e⟩
  ·exact⟨p,h,fun _ _ _ e=>e⟩
theorem qmg (t:List UInt8) (hsm:smpB t=true) (s:List (List AV)):ev1 9 [.str t] s=some (parseAV t,s):=(qaj (P:=prog) (H:=H) (T:=T1) (f:=9) (p:=parseTb) (by rfl) [.str t] s).trans (if_pos hsm)
def exT:List UInt8:=[109,111,100,117,108,101,32,97,46,98,47,99,32,47,47,32,109,105,110,101,10,114,101,113,117,105,114,101,32,120,46,121,47,122,32,118,49,46,50,46,48,32,47,47,32,105,110,100,105,114,101,99,116,10]
def exM:Mf:=⟨[97,46,98,47,99],[],[([120,46,121,47,122],[118,49,46,50,46,48],true)],[],[],[]⟩
def exO:List UInt8:=[109,111,100,117,108,101,32,97,46,98,47,99,10,10,114,101,113,117,105,114,101,32,40,10,9,120,46,121,47,122,32,118,49,46,50,46,48,32,47,47,32,105,110,100,105,114,101,99,116,10,41,10]
def exU:List UInt8:=[109,111,100,117,108,101,32,97,46,98,47,99,10,109,111,100,117,108,101,32,97,46,98,47,99,10]
theorem qu1:parseP exT=.ok exM:=by kernel_rfl
theorem q01:fmtP exM=(exO,0):=by kernel_rfl
theorem qu2:parseP exU=.error (2,12):=by kernel_rfl
theorem sm_T:smpB exT=true:=by kernel_rfl
theorem sm_U:smpB exU=true:=by kernel_rfl
theorem first_eq (σ:List (List AV)):ev1 8 [] σ=some (.bool true,σ):=by
 have h1:∀σ,ev1 9 [.str exT] σ=some (.tup [mfF exM,.int .i64 0,.int .i64 0],σ):=fun σ=>by rw[qmg _ sm_T];unfold parseAV;rw[qu1]
 have h2:∀σ,ev1 14 [mfF exM] σ=some (.tup [.str exO,.int .i64 0],σ):=fun σ=>by
  have:=lift (qrk exM ⟨by decide,by decide,by decide,by decide,by decide,by decide,by simp[exM],by simp[exM],by simp[exM],by simp[exM]⟩ ⟨by decide,by decide,by simp[exM,shT],by simp[exM],by simp[exM],by simp[exM]⟩ σ)
  rw[q01] at this
  exact this
 have h3:∀σ,ev1 9 [.str exU] σ=some (.tup [mfF mf0,.int .i64 2,.int .i64 12],σ):=fun σ=>by rw[qmg _ sm_U];unfold parseAV;rw[qu2]
 have hN:=fun e σ=>lift (qv7 e σ)
 rw[mfFx] at h1 h2 h3
 simp only[exM,exT,exO,exU,mf0,List.map_cons,List.map_nil,rqF] at h1 h2 h3
 refine qh func8 ntmps8 ?_
 simp (maxSteps:=mS) [h1,h2,h3,hN,results8]
end Go.Proofs.Tryz.Ai
end
section
namespace Go.Proofs.Tryz.Ai
open Go Go.AI Go.Proofs
abbrev Md:=List UInt8×List UInt8
abbrev MfT:=List UInt8×List UInt8×List (List UInt8×List UInt8×Bool)×List (List UInt8×List UInt8)×List ((List UInt8×List UInt8)×List UInt8×List UInt8)×List (List UInt8×List UInt8)
def mfO (x:MfT):Mf:=⟨x.1,x.2.1,x.2.2.1,x.2.2.2.1,x.2.2.2.2.1,x.2.2.2.2.2⟩
structure MfSm (f:Mf):Prop where
 m:f.m.length≤1048576
 g:f.g.length≤1048576
 lq:f.rq.length≤1048576
 le:f.ex.length≤1048576
 lp:f.rp.length≤1048576
 lt:f.rt.length≤1048576
 rq:∀x∈f.rq,x.1.length+x.2.1.length≤1048576
 ex:∀x∈f.ex,x.1.length+x.2.length≤1048576
 rp:∀x∈f.rp,x.1.1.length+x.1.2.length+(x.2.1.length+x.2.2.length)≤1048576
 rt:∀x∈f.rt,x.1.length+x.2.length≤1048576
def replB (rp:List Rp) (m:Md):Md:=match rp.find? (fun x=>isM m x.1) with
 | some x=>x.2
 | none=>match rp.find? (fun x=>isM (m.1,[]) x.1) with
  | some x=>x.2
  | none=>m
def rplI (rp:List Rp) (m:Md) (i:Nat):Prop:=i≤2∧(1≤i→rp.find? (fun x=>isM m x.1)=none)∧(2≤i→rp.find? (fun x=>isM (m.1,[]) x.1)=none)
end Go.Proofs.Tryz.Ai
end
section
namespace Go.Proofs.Tryz.Ai
open Go Go.AI Go.Proofs
def noC:List UInt8→Bool
 | []=>true
 | c::r=>!(c==47&&r.head? == some 47)&&noC r
theorem qrl:∀{s:List UInt8},noC s=true↔∀i:Nat,s[i]? = some 47→s[i+1]?≠some 47
 | []=>by simp[noC]
 | c::r=>by
  have ih:=qrl (s:=r)
  constructor
  ·intro h i h1 h2
   simp only[noC,Bool.and_eq_true,Bool.not_eq_true',Bool.and_eq_false_iff] at h
   cases i with
   | zero =>
    simp only[List.getElem?_cons_zero,Option.some.injEq] at h1
    simp only[List.getElem?_cons_succ] at h2
    have h3:r.head? = some 47:=by rw[List.head?_eq_getElem?];exact h2
    rcases h.1 with h4|h4
    ·simp[h1] at h4
    ·simp[h3] at h4
   | succ i=>exact ih.1 h.2 i (by simpa using h1) (by simpa using h2)
  ·intro h
   simp only[noC,Bool.and_eq_true,Bool.not_eq_true',Bool.and_eq_false_iff]
   refine⟨?_,ih.2 fun i h1 h2=>h (i+1) (by simpa using h1) (by simpa using h2)⟩
   by_cases hc:c=47
   ·right
    have:=h 0 (by simp[hc])
    simp only[List.getElem?_cons_succ] at this
    rw[List.head?_eq_getElem?]
    simpa using this
   ·left;simpa using hc
theorem qrm {a:List UInt8} (h:(47:UInt8)∉a):noC a=true:=qrl.2 fun i h1 _=>h (List.mem_of_getElem? h1)
theorem qv9:∀{x t:List UInt8},(47:UInt8)∉x→noC t=true→t.head?≠some 47→noC (x++47::t)=true
 | [],t,_,h,h0=>by simp[noC,h,h0]
 | c::x,t,hx,h,h0=>by
  have h1:c≠47:=fun e=>hx (by simp[e])
  have ih:=qv9 (x:=x) (fun e=>hx (List.mem_cons_of_mem _ e)) h h0
  simp[noC,h1,ih]
theorem qmh:∀{L:List (List UInt8)},(∀x∈L,x≠[]∧(47:UInt8)∉x)→noC (joinB 47 L)=true
 | [],_=>rfl
 | [x],h=>qrm (h x (by simp)).2
 | x::y::r,h=>by
  rw[qb6 47 x (by simp)]
  refine qv9 (h x (by simp)).2 (qmh fun z hz=>h z (List.mem_cons_of_mem _ hz)) ?_
  obtain⟨h1,h2⟩:=h y (by simp)
  intro e
  cases y with
  | nil=>exact h1 rfl
  | cons d y =>
   have:(joinB 47 ((d::y)::r)).head? = some d:=by
    cases r with
    | nil=>rfl
    | cons z r=>rw[qb6 47 _ (by simp)];rfl
   rw[this] at e
   injection e with e
   exact h2 (by simp[e])
theorem qiw {c b:UInt8}:∀{L:List (List UInt8)},b∈joinB c L→b=c∨∃x∈L,b∈x
 | [],h=>by simp[joinB] at h
 | [x],h=>.inr ⟨x,by simp,h⟩
 | x::y::r,h=>by
  rw[qb6 c x (by simp),List.mem_append,List.mem_cons] at h
  rcases h with h|h|h
  ·exact .inr ⟨x,by simp,h⟩
  ·exact .inl h
  ·rcases qiw h with h|⟨z,h1,h2⟩
   ·exact .inl h
   ·exact .inr ⟨z,List.mem_cons_of_mem _ h1,h2⟩
structure Wrd (s:List UInt8):Prop where
 ne:s≠[]
 wd:∀c∈s,isWd c=true
 sl:noC s=true
 ar:s≠[61,62]
theorem qmi {o:List UInt8} (ho:∀c∈o,isWd c=true) {c:UInt8} (h:wordB o c=true):isWd c=true:=by
 unfold wordB at h
 simp only[Bool.or_eq_true] at h
 rcases h with ((h|h)|h)|h
 ·simp only[isD,decide_eq_true_eq] at h
  simp only[isWd,Bool.and_eq_true,decide_eq_true_eq]
  refine⟨⟨by omega,by omega⟩,fun hm=>?_⟩
  simp only[List.mem_cons,List.not_mem_nil,or_false] at hm
  rcases hm with rfl|rfl|rfl|rfl|rfl|rfl<;>revert h<;>decide
 ·simp only[isU,decide_eq_true_eq] at h
  simp only[isWd,Bool.and_eq_true,decide_eq_true_eq]
  refine⟨⟨by omega,by omega⟩,fun hm=>?_⟩
  simp only[List.mem_cons,List.not_mem_nil,or_false] at hm
  rcases hm with rfl|rfl|rfl|rfl|rfl|rfl<;>revert h<;>decide
 ·simp only[isL,decide_eq_true_eq] at h
  simp only[isWd,Bool.and_eq_true,decide_eq_true_eq]
  refine⟨⟨by omega,by omega⟩,fun hm=>?_⟩
  simp only[List.mem_cons,List.not_mem_nil,or_false] at hm
  rcases hm with rfl|rfl|rfl|rfl|rfl|rfl<;>revert h<;>decide
 ·exact ho c (by simpa using h)
theorem qix {p:List UInt8} (h:pathB p=0):Wrd p∧p.length≤100:=by
 unfold pathB at h
 split at h
 ·cases h
 ·rename_i hl
  split at h
  ·cases h
  ·rename_i he
   simp only[not_or] at he
   have he:elemsB [45,46,95,126] p=true:=by simpa using he.1
   unfold elemsB at he
   rw[List.all_eq_true] at he
   have hel:∀x∈splitB 47 p,x≠[]∧∀c∈x,wordB [45,46,95,126] c=true:=by
    intro x hx
    have:=he x hx
    unfold elemB allB at this
    simp only[Bool.and_eq_true,Bool.not_eq_true',List.all_eq_true] at this
    exact⟨fun e=>by rw[e] at this;simp at this,this.1.1⟩
   have hj:=qb7 47 p
   have hmem:∀c∈p,c=47∨wordB [45,46,95,126] c=true:=by
    intro c hc
    rw[← hj] at hc
    rcases qiw hc with h|⟨x,h1,h2⟩
    ·exact .inl h
    ·exact .inr ((hel x h1).2 c h2)
   refine⟨⟨?_,?_,?_,?_⟩,by omega⟩
   ·intro e;subst e
    exact (hel [] (by simp[splitB])).1 rfl
   ·intro c hc
    rcases hmem c hc with rfl|h
    ·decide
    ·exact qmi (by decide) h
   ·rw[← hj]
    exact qmh fun x hx=>⟨(hel x hx).1,qnf hx⟩
   ·intro e
    rcases hmem 61 (by rw[e];simp) with h|h
    ·revert h;decide
    ·revert h;decide
theorem qmj {c:UInt8} {s:List UInt8} {q:UInt8→Bool} (h:∀x∈splitB c s,∀b∈x,q b=true):∀b∈s,b=c∨q b=true:=by
 intro b hb
 rw[← qb7 c s] at hb
 rcases qiw hb with h1|⟨x,h1,h2⟩
 ·exact .inl h1
 ·exact .inr (h x h1 b h2)
theorem qmk {o:List UInt8} {c:UInt8} (h:isD c=true):wordB o c=true:=by unfold wordB;rw[h];simp
theorem qml {s:List UInt8} {n:Nat} (h:numB s=some n):(∀c∈s,isD c=true)∧s.length≤9∧s≠[]:=by
 unfold numB at h
 split at h
 ·rename_i hk
  unfold numOk allB at hk
  simp only[Bool.and_eq_true,List.all_eq_true,decide_eq_true_eq,Bool.not_eq_true'] at hk
  exact⟨hk.1.1.1,hk.2,fun e=>by rw[e] at hk;simp at hk⟩
 ·cases h
theorem qj7 {s:List UInt8} (h0:s≠[]) (h:∀c∈s,wordB [45,46] c=true):Wrd s:=by
 refine⟨h0,fun c hc=>qmi (by decide) (h c hc),qrm fun hm=>?_,fun e=>?_⟩
 ·have:=h 47 hm;revert this;decide
 ·have:=h 61 (by rw[e];simp);revert this;decide
theorem qlj {v:List UInt8} (h:readB v≠none):Wrd v∧v.length≤60:=by
 unfold readB at h
 split at h
 ·exact absurd rfl h
 ·rename_i hl
  split at h
  ·exact absurd rfl h
  ·rename_i c r
   split at h
   ·exact absurd rfl h
   ·rename_i hc
    refine⟨qj7 (by simp) ?_,by omega⟩
    cases hk:coreOf (cutB 45 r).1 with
    | none=>rw[hk] at h;exact absurd rfl h
    | some t =>
     obtain⟨x,y,z⟩:=t
     rw[hk] at h
     simp only at h
     have h1:∀b∈(cutB 45 r).1,wordB [45,46] b=true:=by
      intro b hb
      have hq:∀x∈splitB 46 (cutB 45 r).1,∀b∈x,isD b=true:=by
       intro x hx
       unfold coreOf at hk
       split at hk
       ·rename_i a1 a2 a3 hs
        split at hk
        ·rename_i n1 n2 n3
         rw[hs] at hx
         simp only[List.mem_cons,List.not_mem_nil,or_false] at hx
         rcases hx with rfl|rfl|rfl
         ·exact (qml n1).1
         ·exact (qml n2).1
         ·exact (qml n3).1
        ·cases hk
       ·cases hk
      rcases qmj hq b hb with rfl|h2
      ·decide
      ·exact qmk h2
     have h2:(cutB 45 r).2.2=true→∀b∈(cutB 45 r).2.1,wordB [45,46] b=true:=by
      intro hi b hb
      split at h
      ·exact absurd rfl h
      ·rename_i hq
       have hid:idsB (cutB 45 r).2.1=true:=by simpa[hi] using hq
       unfold idsB at hid
       rw[List.all_eq_true] at hid
       have hq:∀x∈splitB 46 (cutB 45 r).2.1,∀b∈x,wordB [45] b=true:=by
        intro x hx
        have:=hid x hx
        unfold idB allB at this
        simp only[Bool.and_eq_true,List.all_eq_true] at this
        exact this.1.1
       rcases qmj hq b hb with rfl|h2
       ·decide
       ·unfold wordB at h2 ⊢
        simp only[Bool.or_eq_true,decide_eq_true_eq,List.mem_cons,List.not_mem_nil,or_false] at h2 ⊢
        rcases h2 with h2|h2
        ·exact .inl h2
        ·exact .inr (.inl h2)
     intro b hb
     rcases List.mem_cons.1 hb with rfl|hb
     ·have:b=118:=by simpa using hc
      subst this;decide
     ·rcases qf1 45 r with ⟨k1,k2⟩|⟨k1,k2,k3⟩
      ·rw[k2] at hb
       rcases List.mem_append.1 hb with hb|hb
       ·exact h1 b hb
       ·rcases List.mem_cons.1 hb with rfl|hb
        ·decide
        ·exact h2 k1 b hb
      ·rw[k2] at h1;exact h1 b hb
theorem qyk {g:List UInt8} (h:minorB g≠none):Wrd g∧g.length≤11:=by
 unfold minorB at h
 split at h
 ·rename_i hp
  cases hn:numB (g.drop 2) with
  | none=>rw[hn] at h;exact absurd rfl h
  | some k =>
   obtain⟨h1,h2,h3⟩:=qml hn
   match g,hp,h1,h2 with
   | a::b::r,hp,h1,h2 =>
    simp only[List.isPrefixOf,Bool.and_eq_true,beq_iff_eq,List.isPrefixOf_nil_left,and_true] at hp
    simp only[List.drop_succ_cons,List.drop_zero] at h1 h2
    refine⟨qj7 (by simp) fun c hc=>?_,by simp;omega⟩
    rcases List.mem_cons.1 hc with rfl|hc
    ·rw[← hp.1];decide
    ·rcases List.mem_cons.1 hc with rfl|hc
     ·rw[← hp.2];decide
     ·exact qmk (h1 c hc)
   | [a],hp,_,_=>simp[List.isPrefixOf] at hp
   | [],hp,_,_=>simp[List.isPrefixOf] at hp
 ·exact absurd rfl h
theorem qea {p v:List UInt8} (h:checkB p v=0):Wrd p∧p.length≤100∧Wrd v∧v.length≤60:=by
 unfold checkB at h
 split at h
 ·rename_i h1;exact absurd h h1
 ·rename_i h1
  split at h
  ·cases h
  ·rename_i h2
   obtain⟨a,b⟩:=qix (p:=p) (by simpa using h1)
   obtain⟨c,d⟩:=qlj h2
   exact⟨a,b,c,d⟩
end Go.Proofs.Tryz.Ai
end
