/- Part 16 of a proof: Go functions are evaluated on abstract values; no conditions beyond those of each theorem. -/
import Derived.Test.YtjkkcelnfokplaaGreatDoorFi7
set_option linter.all false
set_option maxHeartbeats 16000000
set_option maxRecDepth 4000
section
namespace Go.Proofs.Tryz.Ai
open Go Go.AI Go.Proofs
theorem qhm (p:List UInt8) (hl:p.length≤2^30) (σ):ev 193 [.str p] σ=some (.bool (idsB p),σ):=by
 have hS:=qdc p hl 46
 have hw:∀τ:List (List AV),ev 139 [.str [45]] (σ++τ)=some (.fn 208 [.gp (σ.length+τ.length) 0 (some (9,1))],σ++(τ++[[.str [45]]])):=by
  intro τ;rw[qrh];simp
 obtain⟨L,hL⟩:∃L,splitB 46 p=L:=⟨_,rfl⟩
 have hm:∀x∈L,x.length≤2^30:=fun x hx=>Nat.le_trans (qay (hL▸hx)) hl
 have hn:L.length≤2^31:=by rw[← hL];have:=qaq 46 p;omega
 have hAll:idsB p=L.all idB:=by unfold idsB;rw[hL]
 rw[hL] at hS
 refine qk func193 ntmps193 ?_
 simp (maxSteps:=mS) [hS]
 refine qf (I:=fun q:Nat×List (List AV)=>⟨[(6,.sl (.ex 9 1) (L.map .str)),(7,.int .i64 L.length),(8,.int .i64 q.1)],[],σ++q.2⟩) (Pr:=fun q=>q.1≤L.length∧∀x∈L.take q.1,idB x=true) (μ:=fun q=>L.length-q.1) (a:=(0,[])) (by simp) (by simp) ?_
 rintro⟨i,τ⟩ ⟨hi,ha⟩
 simp only at hi ha ⊢
 by_cases hc:i<L.length
 ·obtain⟨x,hx⟩:∃x,L[i]=x:=⟨_,rfl⟩
  have hx2:L[i]? = some x:=by rw[← hx];exact List.getElem?_eq_getElem hc
  have hxl:=hm x (hx▸List.getElem_mem hc)
  have h1:=qri x [45] (by omega) (σ.length+τ.length) (some (9,1)) (σ++(τ++[[.str [45]]])) (by simp)
  have h2:=qgs x (by omega) (σ++(τ++[[.str [45]]]))
  have h3:=plain_eq x (σ++(τ++[[.str [45]]]))
  have w6:=wr1 i (by omega)
  by_cases hq:idB x=true
  ·have hn:∀y∈L.take (i+1),idB y=true:=take_all hc ha (by rw[hx];exact hq)
   unfold idB at hq
   simp only[Bool.and_eq_true,Bool.not_eq_true'] at hq
   by_cases hd:allB isD x=true
   ·have hp:plainB x=true:=by simpa[hd] using hq.2
    simp (maxSteps:=mS) [-getElem?_pos,hc,hx2,hw,h1,h2,h3,hq.1,hd,hp,w6]
    exact⟨i+1,⟨by omega,hn⟩,by omega,by simp⟩
   ·simp (maxSteps:=mS) [-getElem?_pos,hc,hx2,hw,h1,h2,h3,hq.1,hd,w6]
    exact⟨i+1,⟨by omega,hn⟩,by omega,by simp⟩
  ·have hf:idsB p=false:=by rw[hAll,Bool.eq_false_iff];intro h;exact hq (List.all_eq_true.1 h _ (hx▸List.getElem_mem hc))
   by_cases ha:allB (wordB [45]) x=true
   ·by_cases hd:allB isD x=true
    ·have hp:plainB x=false:=by simpa[idB,ha,hd] using hq
     simp (maxSteps:=mS) [-getElem?_pos,hc,hx2,hw,h1,h2,h3,ha,hd,hp,hf,results193]
    ·exact absurd (by simp[idB,ha,hd]) hq
   ·simp (maxSteps:=mS) [-getElem?_pos,hc,hx2,hw,h1,h2,h3,ha,hf,results193]
 ·have hi':i=L.length:=by omega
  subst hi'
  rw[List.take_length] at ha
  have ht:idsB p=true:=by rw[hAll];exact List.all_eq_true.2 ha
  simp (maxSteps:=mS) [ht,results193]
def verA:Option Ver→AV
 | some v=>.agg [.int .i64 v.ma,.int .i64 v.mi,.int .i64 v.pa,.str v.pre]
 | none=>.agg [.int .i64 0,.int .i64 0,.int .i64 0,.str []]
theorem qkt {r:List UInt8} (h:(splitB 46 r).length≠3):coreOf r=none:=by
 unfold coreOf
 split
 ·rename_i a b c hs;rw[hs] at h;simp at h
 ·rfl
theorem qjb (s:List UInt8) (hl:s.length≤2^30) (σ):ev 127 [.str s] σ=some (.tup [verA (readB s),.bool (readB s).isSome],σ):=by
 have hp:=fun a b=>HasPrefix_eq a b
 refine qk func127 ntmps127 ?_
 by_cases h60:60<s.length
 ·have hr:readB s=none:=by simp[readB,h60]
  simp (maxSteps:=mS) [h60,hr,verA,results127]
 ·cases s with
  | nil=>simp (maxSteps:=mS) [hp,readB,verA,results127]
  | cons c r =>
   by_cases hc:c=118
   ·subst hc
    have hr:readB (118::r)=match coreOf (cutB 45 r).1 with
      | none=>none
      | some (x,y,z)=>if (cutB 45 r).2.2&&!idsB (cutB 45 r).2.1 then none else some ⟨x,y,z,(cutB 45 r).2.1⟩:=by
     unfold readB;rw[if_neg h60];rfl
    simp only[List.length_cons] at h60 hl
    have hcl:=qly 45 r
    obtain⟨⟨k,p,b⟩,hk⟩:∃x,cutB 45 r=x:=⟨_,rfl⟩
    have hC:=qrg r (by omega) 45
    rw[hk] at hC hr hcl
    simp only at hC hr hcl
    have hS:=qdc k (by omega) 46
    have hI:=qhm p (by omega)
    have h61:¬(60:Int)<(r.length:Int)+1:=by omega
    have v1:IntKind.i64.wrap ((r.length:Int)+1)=(r.length:Int)+1:=qh (by omega)
    have v2:List.isPrefixOf [(118:UInt8)] (118::r)=true:=by simp[List.isPrefixOf]
    by_cases h3:(splitB 46 k).length=3
    ·obtain⟨x,y,z,hxyz⟩:∃x y z,splitB 46 k=[x,y,z]:=by
      match hq:splitB 46 k,h3 with
      | [x,y,z],_=>exact⟨x,y,z,rfl⟩
     have hmem:∀w∈splitB 46 k,w.length≤2^30:=fun w hw=>by have:=qay hw;omega
     rw[hxyz] at hS hmem
     have nx:=qce x (by have:=hmem x (by simp);omega)
     have ny:=qce y (by have:=hmem y (by simp);omega)
     have nz:=qce z (by have:=hmem z (by simp);omega)
     have hco:coreOf k=match numB x,numB y,numB z with
       | some x,some y,some z=>some (x,y,z)
       | _,_,_=>none:=by simp only[coreOf,hxyz];cases numB x<;>cases numB y<;>cases numB z<;>rfl
     rw[hco] at hr
     simp only[List.map_cons,List.map_nil] at hS
     cases ex:numB x with
     | none =>
      rw[ex] at nx hr
      simp (maxSteps:=mS) [hp,v1,v2,h61,hC,hS,nx,ny,nz,hr,verA,results127]
     | some x' =>
      cases ey:numB y with
      | none =>
       rw[ex] at nx;rw[ey] at ny;rw[ex,ey] at hr
       simp (maxSteps:=mS) [hp,v1,v2,h61,hC,hS,nx,ny,nz,hr,verA,results127]
      | some y' =>
       cases ez:numB z with
       | none =>
        rw[ex] at nx;rw[ey] at ny;rw[ez] at nz;rw[ex,ey,ez] at hr
        simp (maxSteps:=mS) [hp,v1,v2,h61,hC,hS,nx,ny,nz,hr,verA,results127]
       | some z' =>
        rw[ex] at nx;rw[ey] at ny;rw[ez] at nz;rw[ex,ey,ez] at hr
        simp only at hr
        cases b with
        | false=>simp (maxSteps:=mS) [hp,v1,v2,h61,hC,hS,nx,ny,nz,hr,verA,results127]
        | true =>
         by_cases hi:idsB p=true
         ·rw[hi] at hr hI
          simp (maxSteps:=mS) [hp,v1,v2,h61,hC,hS,nx,ny,nz,hI,hr,verA,results127]
         ·have hi:idsB p=false:=by simpa using hi
          rw[hi] at hr hI
          simp (maxSteps:=mS) [hp,v1,v2,h61,hC,hS,nx,ny,nz,hI,hr,verA,results127]
    ·rw[qkt h3] at hr
     have h3':¬((splitB 46 k).length:Int)=3:=by omega
     simp (maxSteps:=mS) [hp,v1,v2,h61,hC,hS,h3,hr,verA,results127]
   ·have hr:readB (c::r)=none:=by unfold readB;rw[if_neg h60];simp[hc]
    have v2:List.isPrefixOf [(118:UInt8)] (c::r)=false:=by simp[List.isPrefixOf];exact fun e=>hc e.symm
    simp only[List.length_cons] at h60
    have h61:¬(60:Int)<(r.length:Int)+1:=by omega
    simp (maxSteps:=mS) [hp,h61,v2,hr,verA,results127]
end Go.Proofs.Tryz.Ai
end
