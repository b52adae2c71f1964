/- Part 19 of a proof: Go functions are evaluated on abstract values; no conditions beyond those of each theorem. -/
import Derived.Test.YtjkkcelnfokplaaGreatDoorFi18
set_option linter.all false
set_option maxHeartbeats 16000000
set_option maxRecDepth 4000
section
namespace Go.Proofs.Tryz.Ai
open Go Go.AI Go.Proofs
def rpartsA:Option Ver→AV
 | some v=>.tup [.int .i64 v.ma,.int .i64 v.mi,.int .i64 v.pa,.str v.pre,.bool true]
 | none=>.tup [.int .i64 0,.int .i64 0,.int .i64 0,.str [],.bool false]
theorem qen (s:List UInt8) (hl:s.length≤2^30) (σ):ev 199 [.str s] σ=some (rpartsA (readB s),σ):=by
 refine qk func199 ntmps199 ?_
 by_cases h60:60<s.length
 ·have hr:readB s=none:=by simp[readB,h60]
  simp (maxSteps:=mS) [h60,hr,rpartsA,results199]
 ·cases s with
  | nil=>simp (maxSteps:=mS) [readB,rpartsA,results199]
  | cons c r =>
   have h61:¬(60:Int)<(r.length:Int)+1:=by simp at h60;omega
   have hrl:r.length<60:=by simp at h60;omega
   by_cases hc:c=118
   ·subst hc
    have v1:IntKind.i64.wrap ((r.length:Int)+1)=(r.length:Int)+1:=qh (by omega)
    have hr:readB (118::r)=match coreOf (cutB 45 r).1 with
      | none=>none
      | some (x,y,z)=>if (cutB 45 r).2.2&&!idsB (cutB 45 r).2.1 then none else some ⟨x,y,z,(cutB 45 r).2.1⟩:=by
     unfold readB;rw[if_neg h60];rfl
    simp (maxSteps:=mS) [h61,v1]
    obtain⟨⟨k,p,b⟩,hk⟩:∃x,cutB 45 r=x:=⟨_,rfl⟩
    refine qgu (K1:=fun e st=>e=.exit 0∧∃(i:Int) (tl:List (Nat×AV)),(tl=[]∨tl=[(38,.bool false)])∧st=⟨[(7,.str k),(8,.str p),(9,.bool b),(10,.int .i64 i)]++tl,[],σ⟩) ?_ ?_
    ·refine qf (I:=fun i:Nat=>⟨[(7,.str r),(8,.str []),(9,.bool false),(10,.int .i64 i)],[],σ⟩) (Pr:=fun i=>i≤r.length∧45∉r.take i) (μ:=fun i=>r.length-i) (a:=0) (by simp) (by simp) ?_
     rintro i ⟨hi,hn⟩
     by_cases hc:i<r.length
     ·obtain⟨x,hcx⟩:∃x,r[i]=x:=⟨_,rfl⟩
      have hx:r[i]? = some x:=by rw[← hcx];exact List.getElem?_eq_getElem hc
      have w1:=wr1 i (by omega)
      by_cases hq:x=45
      ·have hix:ix 45 r=some i:=by
        have h1:r=r.take i++45::r.drop (i+1):=by rw[← hq,← hcx,← List.drop_eq_getElem_cons hc,List.take_append_drop]
        have h2:=q02 (y:=r.drop (i+1)) hn
        rw[← h1] at h2
        rw[h2];simp;omega
       have hcb:cutB 45 r=(r.take i,r.drop (i+1),true):=by simp[cutB,hix]
       rw[hk] at hcb
       simp only[Prod.mk.injEq] at hcb
       obtain⟨rfl,rfl,rfl⟩:=hcb
       have q1:i+1≤r.length:=by omega
       have q2:i≤r.length:=by omega
       subst hq
       simp (maxSteps:=mS) [-getElem?_pos,hc,hx,w1,q1,q2]
      ·have hn2:45∉r.take (i+1):=by
        rw[List.take_succ_eq_append_getElem hc,hcx];simp[hn];exact fun e=>hq e.symm
       simp (maxSteps:=mS) [-getElem?_pos,hc,hx,hq,w1]
       exact⟨i+1,⟨by omega,hn2⟩,by omega,by simp⟩
     ·have hi':i=r.length:=by omega
      subst hi'
      rw[List.take_length] at hn
      have hix:ix 45 r=none:=qgj.2 hn
      have hcb:cutB 45 r=(r,[],false):=by simp[cutB,hix]
      rw[hk] at hcb
      simp only[Prod.mk.injEq] at hcb
      obtain⟨rfl,rfl,rfl⟩:=hcb
      simp (maxSteps:=mS) [hc]
    ·rintro e st ⟨rfl,i,tl,htl,rfl⟩
     have hcl:=qly 45 r
     rw[hk] at hcl hr
     simp only at hcl hr
     have hC:∀σ,ev 36 [.str k,.int .u8 46] σ=some (.sl (.ex 9 1) ((splitB 46 k).map .str),σ):=qku k (by omega) 46
     have hP:∀σ,ev 36 [.str p,.int .u8 46] σ=some (.sl (.ex 9 1) ((splitB 46 p).map .str),σ):=qku p (by omega) 46
     by_cases h3:(splitB 46 k).length=3
     ·obtain⟨x,y,z,hxyz⟩:∃x y z,splitB 46 k=[x,y,z]:=by
       match hq:splitB 46 k,h3 with
       | [x,y,z],_=>exact⟨x,y,z,rfl⟩
      have hmem:∀w∈splitB 46 k,w.length≤2^30:=fun w hw=>by have:=qay hw;omega
      rw[hxyz] at hC hmem
      have nx:=qdu x (by have:=hmem x (by simp);omega)
      have ny:=qdu y (by have:=hmem y (by simp);omega)
      have nz:=qdu z (by have:=hmem z (by simp);omega)
      have hco:coreOf k=match numB x,numB y,numB z with
        | some x,some y,some z=>some (x,y,z)
        | _,_,_=>none:=by simp only[coreOf,hxyz];cases numB x<;>cases numB y<;>cases numB z<;>rfl
      rw[hco] at hr
      simp only[List.map_cons,List.map_nil] at hC
      by_cases ex:numOk x=true
      ·by_cases ey:numOk y=true
       ·by_cases ez:numOk z=true
        ·have okA:∀s,numOk s=true→s.all isD=true∧plainB s=true∧s.length≤9:=fun s h=>by
          simp only[numOk,allB,Bool.and_eq_true,decide_eq_true_eq] at h;exact⟨h.1.1.1,h.1.2,h.2⟩
         have ax:=qem x (okA x ex).1 (okA x ex).2.1 (okA x ex).2.2
         have ay:=qem y (okA y ey).1 (okA y ey).2.1 (okA y ey).2.2
         have az:=qem z (okA z ez).1 (okA z ez).2.1 (okA z ez).2.2
         have bx:numB x=some (valB x):=by simp[numB,ex]
         have by':numB y=some (valB y):=by simp[numB,ey]
         have bz:numB z=some (valB z):=by simp[numB,ez]
         rw[bx,by',bz] at hr
         simp only at hr
         cases b with
         | false =>
          simp only[Bool.false_and,Bool.false_eq_true,if_false] at hr
          rcases htl with rfl|rfl<;>simp (maxSteps:=mS) [hC,nx,ny,nz,ex,ey,ez,ax,ay,az,hr,rpartsA,results199]
         | true =>
          obtain⟨L,hL⟩:∃L,splitB 46 p=L:=⟨_,rfl⟩
          have hm:∀x∈L,x.length≤2^30:=fun x hx=>by have:=qay (hL▸hx);omega
          have hn:L.length≤2^31:=by rw[← hL];have:=qaq 46 p;omega
          have hAll:idsB p=L.all idB:=by unfold idsB;rw[hL]
          rw[hL] at hP
          rcases htl with rfl|rfl
          all_goals
           simp (maxSteps:=mS) [hC,hP,nx,ny,nz,ex,ey,ez]
           refine qf (I:=fun i:Nat=>⟨[(8,.str p),(11,.sl (.ex 9 1) [.str x,.str y,.str z]),(12,.sl (.ex 9 1) (L.map .str)),(13,.int .i64 i)],[],σ⟩) (Pr:=fun i=>i≤L.length∧∀x∈L.take i,idB x=true) (μ:=fun i=>L.length-i) (a:=0) (by simp) (by simp) ?_
           rintro i ⟨hi,ha⟩
           by_cases hc:i<L.length
           ·obtain⟨w,hw⟩:∃w,L[i]=w:=⟨_,rfl⟩
            have hw2:L[i]? = some w:=by rw[← hw];exact List.getElem?_eq_getElem hc
            have hI:=qho w (by have:=hm w (hw▸List.getElem_mem hc);omega)
            have w6:=wr1 i (by omega)
            by_cases hq:idB w=true
            ·rw[hq] at hI
             simp (maxSteps:=mS) [-getElem?_pos,hc,hw2,hI,w6]
             exact⟨i+1,⟨by omega,take_all hc ha (by rw[hw];exact hq)⟩,by omega,by simp⟩
            ·have hf:idsB p=false:=by rw[hAll,Bool.eq_false_iff];intro h;exact hq (List.all_eq_true.1 h _ (hw▸List.getElem_mem hc))
             have hq:idB w=false:=by simpa using hq
             rw[hq] at hI
             rw[hf] at hr
             simp only[Bool.not_false,Bool.and_self,if_true] at hr
             simp (maxSteps:=mS) [-getElem?_pos,hc,hw2,hI,hr,rpartsA,results199]
           ·have hi':i=L.length:=by omega
            subst hi'
            rw[List.take_length] at ha
            have ht:idsB p=true:=by rw[hAll];exact List.all_eq_true.2 ha
            rw[ht] at hr
            simp only[Bool.not_true,Bool.and_false,Bool.false_eq_true,if_false] at hr
            simp (maxSteps:=mS) [hc,ax,ay,az,hr,rpartsA,results199]
        ·have bz:numB z=none:=by simp[numB,ez]
         have hr2:readB (118::r)=none:=by rw[hr,bz];cases numB x<;>cases numB y<;>rfl
         rcases htl with rfl|rfl<;>simp (maxSteps:=mS) [hC,nx,ny,nz,ex,ey,ez,hr2,rpartsA,results199]
       ·have bz:numB y=none:=by simp[numB,ey]
        have hr2:readB (118::r)=none:=by rw[hr,bz];cases numB x<;>rfl
        rcases htl with rfl|rfl<;>simp (maxSteps:=mS) [hC,nx,ny,nz,ex,ey,hr2,rpartsA,results199]
      ·have bz:numB x=none:=by simp[numB,ex]
       have hr2:readB (118::r)=none:=by rw[hr,bz]
       rcases htl with rfl|rfl<;>simp (maxSteps:=mS) [hC,nx,ny,nz,ex,hr2,rpartsA,results199]
     ·rw[qkt h3] at hr
      rcases htl with rfl|rfl<;>simp (maxSteps:=mS) [hC,h3,hr,rpartsA,results199]
   ·have hr:readB (c::r)=none:=by unfold readB;rw[if_neg h60];simp[hc]
    simp (maxSteps:=mS) [h61,hc,hr,rpartsA,results199]
end Go.Proofs.Tryz.Ai
end
