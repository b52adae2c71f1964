/- Part 28 of a proof: a Go function is evaluated on abstract values (texts D7b .. D7b); no conditions beyond those of each theorem. -/
import Derived.Test.YtjkkcelnfokplaaGreatDoorAi22
set_option linter.all false
set_option linter.unusedVariables false
set_option linter.unusedSimpArgs false
set_option linter.unnecessarySimpa false
section
namespace Go.Proofs.Tryz.Ai
open Go Go.AI Go.Proofs
set_option maxHeartbeats 8000000
set_option maxRecDepth 4000
set_option linter.unusedVariables false
theorem tokens_pan (b0:Nat) (sh0:Option (TypeId×Nat)) (s:List UInt8) (hs:s.length≤2^30) (hT:tokB s=none) (σ:List (List AV)) (cs:List AV) (line:Int) (hb:σ[b0]? = some cs) (hln:cs[6]? = some (.int .i64 line)) :
  pc 114 [.gp b0 0 sh0,.str s] σ (fltV line 11):=by
 refine qaa 9 1 rfl Tryz.func114 rfl (by simp[Tryz.ntmps114]) (by kernel_rfl) (by kernel_rfl) ?_
 simp (maxSteps:=4000000) []
 refine qy1 (I:=fun p:AV×List (List AV)×Nat=>⟨[(0,.gp b0 0 sh0),(1,.str s),(5,p.1),(6,.int .i64 p.2.2)],[],p.2.1⟩) (Pr:=fun p=>tkI s σ p.1 p.2.1 p.2.2) (μ:=fun p=>s.length-p.2.2) (.sl (.ex 187 2) [],σ,0) (by simp) ⟨[],.inl ⟨rfl,rfl,rfl⟩,by simp,by simp,by simp⟩ ?_
 rintro⟨v,S,i⟩ ⟨l,hv,hi,hli,he⟩
 simp only at hv hi hli he ⊢
 by_cases hc:i<s.length
 ·skip
  have w1:IntKind.i64.wrap ((i:Int)+1)=(i:Int)+1:=qh (by omega)
  obtain⟨x,hx⟩:∃x,s[i]? = some x:=⟨_,List.getElem?_eq_getElem hc⟩
  have hdx:s.drop i=x::s.drop (i+1):=by obtain⟨h1,h2⟩:=List.getElem?_eq_some_iff.1 hx;rw[List.drop_eq_getElem_cons h1,h2]
  rw[hdx] at he
  have hB1:=fun σ=>qa9 [40,41,91,93,44] x σ
  have hB2:=qbi x [40,41,91,93,44]
  have hlm:l.length+1≤most:=by unfold most;omega
  have h1m:1≤most:=by unfold most;omega
  cases hbl:isBl x with
  | true =>
   rw[tokB_bl hbl] at he
   have hbx:x=32∨x=9:=by simpa[isBl] using hbl
   right;rcases hbx with rfl|rfl
   all_goals
    simp (maxSteps:=4000000) [-getElem?_pos,-Prod.exists,hc,hx,w1]
    exact⟨(v,S,i+1),⟨l,hv,by simp;omega,by simp;omega,he⟩,by simp;omega,by simp⟩
  | false =>
   have hb1:x≠32:=by rintro rfl;simp[isBl] at hbl
   have hb2:x≠9:=by rintro rfl;simp[isBl] at hbl
   cases hmk:isMk x with
   | true =>
    rw[tokB_mk hbl hmk,qjr] at he
    have hmm:x∈([40,41,91,93,44]:List UInt8):=by simpa[isMk,mkL] using hmk
    have hB3:=hB2.2 hmm
    obtain⟨X,hX⟩:∃X,ixI x [40,41,91,93,44]=X:=⟨_,rfl⟩
    rw[hX] at hB1 hB3
    right;rcases hv with ⟨rfl,rfl,rfl⟩|⟨b,rfl,hB,hpos⟩
    ·simp (maxSteps:=4000000) [-getElem?_pos,-Prod.exists,hc,hx,w1,hb1,hb2,hB1,hB3,h1m]
     exact⟨(.ms 187 2 S.length 0 1,S++[[.int .u8 (x.toNat:Int),.str []]],i+1),⟨[(x,[])],.inr ⟨S.length,rfl,BoxK.new (by simp) (Nat.le_refl _) (x,[]),by simp⟩,by simp;omega,by simp,by simpa using he⟩,by simp;omega,by simp⟩
    ·have hg:=hB.get
     have hfl:=flat_lenK l
     simp (maxSteps:=4000000) [-getElem?_pos,-Prod.exists,hc,hx,w1,hb1,hb2,hB1,hB3,hlm,hg,hfl,hpos]
     exact⟨(.ms 187 2 S.length 0 (l.length+1),S.set b []++[flat (l.map tkF)++[.int .u8 (x.toNat:Int),.str []]],i+1),⟨l++[(x,[])],.inr ⟨S.length,by simp,by simpa using hB.app (x,[]),by simp⟩,by simp;omega,by simp;omega,by simpa using he⟩,by simp;omega,by simp⟩
   | false =>
    have hmm:¬x∈([40,41,91,93,44]:List UInt8):=by simpa[isMk,mkL] using hmk
    have hB3:¬0≤ixI x [40,41,91,93,44]:=fun h=>hmm (hB2.1 h)
    obtain⟨X,hX⟩:∃X,ixI x [40,41,91,93,44]=X:=⟨_,rfl⟩
    rw[hX] at hB1 hB3
    cases hwd:isWd x with
    | false =>
     left
     have hS:S[b0]? = some cs:=by
      rcases hv with ⟨rfl,rfl,rfl⟩|⟨b,rfl,hB,hpos⟩
      ·exact hb
      ·exact hB.old hb
     have hM:=qab b0 sh0 S cs line 11 hS hln (by decide)
     have hq1:=fun σ=>qa9 [40,41,91,93,44,34] x σ
     have hq2:=qbi x [40,41,91,93,44,34]
     obtain⟨Y,hYY⟩:∃Y,ixI x [40,41,91,93,44,34]=Y:=⟨_,rfl⟩
     rw[hYY] at hq1 hq2
     have hdef:isWd x=(decide (32<x.toNat)&&decide (x.toNat≤126)&&decide (x∉([40,41,91,93,44,34]:List UInt8))):=rfl
     rw[hwd] at hdef
     have hd3:¬((32<x.toNat∧x.toNat≤126)∧x∉([40,41,91,93,44,34]:List UInt8)):=by simpa using hdef.symm
     refine qxj (id:=9) (k:=1) ?_
     simp (maxSteps:=4000000) [-getElem?_pos,-Prod.exists,hc,hx,w1,hb1,hb2,hB1,hB3]
     refine ql (I:=fun k:Nat=>⟨[(0,.gp b0 0 sh0),(1,.str s),(5,v),(6,.int .i64 k),(8,.int .i64 i)],[],S⟩) (Pr:=fun k=>k=i) (μ:=fun k=>s.length-k) (a:=i) (by simp) rfl ?_
     rintro k rfl
     by_cases q1:32<x.toNat
     ·by_cases q2:x.toNat≤126
      ·have q4:¬Y<0:=fun h=>by
        have:¬x∉([40,41,91,93,44,34]:List UInt8):=fun hn=>hd3 ⟨⟨q1,q2⟩,hn⟩
        have:=hq2.2 (Classical.not_not.1 this)
        omega
       simp (maxSteps:=4000000) [-getElem?_pos,-Prod.exists,hc,hx,q1,q2,hq1,q4,hM]
      ·simp (maxSteps:=4000000) [-getElem?_pos,-Prod.exists,hc,hx,q1,q2,hM]
     ·simp (maxSteps:=4000000) [-getElem?_pos,-Prod.exists,hc,hx,q1,hM]
    | true =>
     right;simp (maxSteps:=4000000) [-getElem?_pos,-Prod.exists,hc,hx,w1,hb1,hb2,hB1,hB3]
     refine ql (I:=fun k:Nat=>⟨[(0,.gp b0 0 sh0),(1,.str s),(5,v),(6,.int .i64 k),(8,.int .i64 i)],[],S⟩) (Pr:=fun k=>i≤k∧k≤s.length∧∀j c,i≤j→j<k→s[j]? = some c→isWd c=true) (μ:=fun k=>s.length-k) (a:=i) (by simp) ⟨Nat.le_refl _,by omega,fun j c h1 h2=>by omega⟩ ?_
     rintro k ⟨hik,hk,hrun⟩
     have w2:IntKind.i64.wrap ((k:Int)+1)=(k:Int)+1:=qh (by omega)
     have more:∀c,s[k]? = some c→isWd c=true→∀j c',i≤j→j<k+1→s[j]? = some c'→isWd c'=true:=by
      intro c h1 h2 j c' h3 h4 h5
      by_cases hjk:j=k
      ·subst hjk;rw[h1] at h5;injection h5 with h5;subst h5;exact h2
      ·exact hrun j c' h3 (by omega) h5
     have leave:k≠i→(k=s.length∨∃c,s[k]? = some c∧isWd c=false)→tokB s=(tokB (s.drop k)).map ((l++[tkW ((s.take k).drop i)])++·):=by
      intro h1 h2
      obtain⟨e1,e2⟩:=qld hik hk hrun h2
      rw[he,tokB_wd hbl hmk hwd,qjr,← hdx,e1,e2]
     have hki:∀c,s[k]? = some c→isWd c=false→k≠i:=by
      rintro c h1 h2 rfl;rw[hx] at h1;injection h1 with h1;subst h1;rw[hwd] at h2;cases h2
     by_cases hkc:k<s.length
     ·obtain⟨y,hy⟩:∃y,s[k]? = some y:=⟨_,List.getElem?_eq_getElem hkc⟩
      have hY1:=fun σ=>qa9 [40,41,91,93,44,34] y σ
      have hY2:=qbi y [40,41,91,93,44,34]
      obtain⟨Y,hYY⟩:∃Y,ixI y [40,41,91,93,44,34]=Y:=⟨_,rfl⟩
      rw[hYY] at hY1 hY2
      have hyn:y.toNat<256:=y.toNat_lt
      have hdef:isWd y=(decide (32<y.toNat)&&decide (y.toNat≤126)&&decide (y∉([40,41,91,93,44,34]:List UInt8))):=rfl
      cases hyw:isWd y with
      | true =>
       have hmo:=more y hy hyw
       rw[hyw] at hdef
       have hd3:(32<y.toNat∧y.toNat≤126)∧y∉([40,41,91,93,44,34]:List UInt8):=by simpa using hdef.symm
       obtain⟨⟨q1,q2⟩,q3⟩:=hd3
       have q4:Y<0:=by
        rcases Int.lt_or_le Y 0 with h|h
        ·exact h
        ·exact absurd (hY2.1 h) q3
       simp (maxSteps:=4000000) [-getElem?_pos,-Prod.exists,hkc,hy,w2,q1,q2,hY1,q4]
       exact⟨k+1,⟨by omega,by omega,hmo⟩,by omega,by simp⟩
      | false =>
       have hlv:=leave (hki y hy hyw) (.inr ⟨y,hy,hyw⟩)
       have hne:=hki y hy hyw
       rw[hyw] at hdef
       have hd3:¬((32<y.toNat∧y.toNat≤126)∧y∉([40,41,91,93,44,34]:List UInt8)):=by simpa using hdef.symm
       by_cases q1:32<y.toNat
       ·by_cases q2:y.toNat≤126
        ·have q4:¬Y<0:=fun h=>by
          have:¬y∉([40,41,91,93,44,34]:List UInt8):=fun hn=>hd3 ⟨⟨q1,q2⟩,hn⟩
          have:=hY2.2 (Classical.not_not.1 this)
          omega
         obtain⟨W,hW⟩:∃W,(s.take k).drop i=W:=⟨_,rfl⟩
         rw[hW] at hlv
         have hne':¬((k:Int)=(i:Int)):=by omega
         have hik':i≤k:=hik
         have hz0:IntKind.i64.wrap 0=0:=by decide
         have hw3:∀n:Nat,n<2^40→IntKind.i64.wrap ((n:Int)+1-1)=n:=fun n hn=>by rw[show (n:Int)+1-1=n by omega];exact qh (by omega)
         by_cases harr:W=[61,62]
         ·have htk:tkW W=(62,[]):=by unfold tkW;rw[if_pos harr]
          rw[htk] at hlv
          subst harr
          rcases hv with ⟨rfl,rfl,rfl⟩|⟨b,rfl,hB,hpos⟩
          ·simp (maxSteps:=4000000) [-getElem?_pos,-Prod.exists,hkc,hy,q1,q2,hY1,q4,hk,hne,hne',hik',hW,h1m,hz0,writeCells]
           repeat (rw[qn];rotate_left;(· (try unfold most);omega);simp (maxSteps:=4000000) [-getElem?_pos,-Prod.exists,hkc,hy,q1,q2,hY1,q4,hk,hne,hne',hik',hW,h1m,hz0,writeCells])
           exact⟨(.ms 187 2 S.length 0 1,S++[[.int .u8 62,.str []]],k),⟨[(62,[])],.inr ⟨S.length,rfl,BoxK.new (by simp) (Nat.le_refl _) (62,[]),by simp⟩,by simp;omega,by simp;omega,by simpa using hlv⟩,by simp;omega,by simp⟩
          ·have hg:=hB.get
           have hfl:=flat_lenK l
           have hll:=hw3 l.length (by omega)
           have hgs:∀X:List AV,(S.set b []++[X])[S.length]? = some X:=fun X=>by simp
           have hlz:IntKind.i64.wrap (l.length:Int)=l.length:=qh (by omega)
           have htk1:∀a b:AV,(flat (l.map tkF)++[a,b]).take (l.length*2)=flat (l.map tkF):=fun a b=>by rw[← hfl];simp
           have htk2:∀a b:AV,(flat (l.map tkF)++[a,b]).drop (l.length*2+2)=[]:=fun a b=>List.drop_eq_nil_of_le (by simp[hfl])
           simp (maxSteps:=4000000) [-getElem?_pos,-Prod.exists,hkc,hy,q1,q2,hY1,q4,hk,hne,hne',hik',hW,hlm,hg,hfl,hpos,hll,hlz,hgs,htk1,htk2,writeCells]
           repeat (rw[qn];rotate_left;(· (try unfold most);omega);simp (maxSteps:=4000000) [-getElem?_pos,-Prod.exists,hkc,hy,q1,q2,hY1,q4,hk,hne,hne',hik',hW,hlm,hg,hfl,hpos,hll,hlz,hgs,htk1,htk2,writeCells])
           exact⟨(.ms 187 2 S.length 0 (l.length+1),S.set b []++[flat (l.map tkF)++[.int .u8 62,.str []]],k),⟨l++[(62,[])],.inr ⟨S.length,by simp,by simpa using hB.app (62,[]),by simp⟩,by simp;omega,by simp;omega,by simpa using hlv⟩,by simp;omega,by simp⟩
         ·have htk:tkW W=(119,W):=by unfold tkW;rw[if_neg harr]
          rw[htk] at hlv
          have harr':(W==[61,62])=false:=by simpa using harr
          rcases hv with ⟨rfl,rfl,rfl⟩|⟨b,rfl,hB,hpos⟩
          ·simp (maxSteps:=4000000) [-getElem?_pos,-Prod.exists,hkc,hy,q1,q2,hY1,q4,hk,hne,hne',hik',hW,h1m,harr',harr]
           repeat (rw[qn];rotate_left;(· (try unfold most);omega);simp (maxSteps:=4000000) [-getElem?_pos,-Prod.exists,hkc,hy,q1,q2,hY1,q4,hk,hne,hne',hik',hW,h1m,harr',harr])
           exact⟨(.ms 187 2 S.length 0 1,S++[[.int .u8 119,.str W]],k),⟨[(119,W)],.inr ⟨S.length,rfl,BoxK.new (by simp) (Nat.le_refl _) (119,W),by simp⟩,by simp;omega,by simp;omega,by simpa using hlv⟩,by simp;omega,by simp⟩
          ·have hg:=hB.get
           have hfl:=flat_lenK l
           simp (maxSteps:=4000000) [-getElem?_pos,-Prod.exists,hkc,hy,q1,q2,hY1,q4,hk,hne,hne',hik',hW,hlm,hg,hfl,hpos,harr',harr]
           repeat (rw[qn];rotate_left;(· (try unfold most);omega);simp (maxSteps:=4000000) [-getElem?_pos,-Prod.exists,hkc,hy,q1,q2,hY1,q4,hk,hne,hne',hik',hW,hlm,hg,hfl,hpos,harr',harr])
           exact⟨(.ms 187 2 S.length 0 (l.length+1),S.set b []++[flat (l.map tkF)++[.int .u8 119,.str W]],k),⟨l++[(119,W)],.inr ⟨S.length,by simp,by simpa using hB.app (119,W),by simp⟩,by simp;omega,by simp;omega,by simpa using hlv⟩,by simp;omega,by simp⟩
        ·obtain⟨W,hW⟩:∃W,(s.take k).drop i=W:=⟨_,rfl⟩
         rw[hW] at hlv
         have hne':¬((k:Int)=(i:Int)):=by omega
         have hik':i≤k:=hik
         have hz0:IntKind.i64.wrap 0=0:=by decide
         have hw3:∀n:Nat,n<2^40→IntKind.i64.wrap ((n:Int)+1-1)=n:=fun n hn=>by rw[show (n:Int)+1-1=n by omega];exact qh (by omega)
         by_cases harr:W=[61,62]
         ·have htk:tkW W=(62,[]):=by unfold tkW;rw[if_pos harr]
          rw[htk] at hlv
          subst harr
          rcases hv with ⟨rfl,rfl,rfl⟩|⟨b,rfl,hB,hpos⟩
          ·simp (maxSteps:=4000000) [-getElem?_pos,-Prod.exists,hkc,hy,q1,q2,hk,hne,hne',hik',hW,h1m,hz0,writeCells]
           repeat (rw[qn];rotate_left;(· (try unfold most);omega);simp (maxSteps:=4000000) [-getElem?_pos,-Prod.exists,hkc,hy,q1,q2,hk,hne,hne',hik',hW,h1m,hz0,writeCells])
           exact⟨(.ms 187 2 S.length 0 1,S++[[.int .u8 62,.str []]],k),⟨[(62,[])],.inr ⟨S.length,rfl,BoxK.new (by simp) (Nat.le_refl _) (62,[]),by simp⟩,by simp;omega,by simp;omega,by simpa using hlv⟩,by simp;omega,by simp⟩
          ·have hg:=hB.get
           have hfl:=flat_lenK l
           have hll:=hw3 l.length (by omega)
           have hgs:∀X:List AV,(S.set b []++[X])[S.length]? = some X:=fun X=>by simp
           have hlz:IntKind.i64.wrap (l.length:Int)=l.length:=qh (by omega)
           have htk1:∀a b:AV,(flat (l.map tkF)++[a,b]).take (l.length*2)=flat (l.map tkF):=fun a b=>by rw[← hfl];simp
           have htk2:∀a b:AV,(flat (l.map tkF)++[a,b]).drop (l.length*2+2)=[]:=fun a b=>List.drop_eq_nil_of_le (by simp[hfl])
           simp (maxSteps:=4000000) [-getElem?_pos,-Prod.exists,hkc,hy,q1,q2,hk,hne,hne',hik',hW,hlm,hg,hfl,hpos,hll,hlz,hgs,htk1,htk2,writeCells]
           repeat (rw[qn];rotate_left;(· (try unfold most);omega);simp (maxSteps:=4000000) [-getElem?_pos,-Prod.exists,hkc,hy,q1,q2,hk,hne,hne',hik',hW,hlm,hg,hfl,hpos,hll,hlz,hgs,htk1,htk2,writeCells])
           exact⟨(.ms 187 2 S.length 0 (l.length+1),S.set b []++[flat (l.map tkF)++[.int .u8 62,.str []]],k),⟨l++[(62,[])],.inr ⟨S.length,by simp,by simpa using hB.app (62,[]),by simp⟩,by simp;omega,by simp;omega,by simpa using hlv⟩,by simp;omega,by simp⟩
         ·have htk:tkW W=(119,W):=by unfold tkW;rw[if_neg harr]
          rw[htk] at hlv
          have harr':(W==[61,62])=false:=by simpa using harr
          rcases hv with ⟨rfl,rfl,rfl⟩|⟨b,rfl,hB,hpos⟩
          ·simp (maxSteps:=4000000) [-getElem?_pos,-Prod.exists,hkc,hy,q1,q2,hk,hne,hne',hik',hW,h1m,harr',harr]
           repeat (rw[qn];rotate_left;(· (try unfold most);omega);simp (maxSteps:=4000000) [-getElem?_pos,-Prod.exists,hkc,hy,q1,q2,hk,hne,hne',hik',hW,h1m,harr',harr])
           exact⟨(.ms 187 2 S.length 0 1,S++[[.int .u8 119,.str W]],k),⟨[(119,W)],.inr ⟨S.length,rfl,BoxK.new (by simp) (Nat.le_refl _) (119,W),by simp⟩,by simp;omega,by simp;omega,by simpa using hlv⟩,by simp;omega,by simp⟩
          ·have hg:=hB.get
           have hfl:=flat_lenK l
           simp (maxSteps:=4000000) [-getElem?_pos,-Prod.exists,hkc,hy,q1,q2,hk,hne,hne',hik',hW,hlm,hg,hfl,hpos,harr',harr]
           repeat (rw[qn];rotate_left;(· (try unfold most);omega);simp (maxSteps:=4000000) [-getElem?_pos,-Prod.exists,hkc,hy,q1,q2,hk,hne,hne',hik',hW,hlm,hg,hfl,hpos,harr',harr])
           exact⟨(.ms 187 2 S.length 0 (l.length+1),S.set b []++[flat (l.map tkF)++[.int .u8 119,.str W]],k),⟨l++[(119,W)],.inr ⟨S.length,by simp,by simpa using hB.app (119,W),by simp⟩,by simp;omega,by simp;omega,by simpa using hlv⟩,by simp;omega,by simp⟩
       ·obtain⟨W,hW⟩:∃W,(s.take k).drop i=W:=⟨_,rfl⟩
        rw[hW] at hlv
        have hne':¬((k:Int)=(i:Int)):=by omega
        have hik':i≤k:=hik
        have hz0:IntKind.i64.wrap 0=0:=by decide
        have hw3:∀n:Nat,n<2^40→IntKind.i64.wrap ((n:Int)+1-1)=n:=fun n hn=>by rw[show (n:Int)+1-1=n by omega];exact qh (by omega)
        by_cases harr:W=[61,62]
        ·have htk:tkW W=(62,[]):=by unfold tkW;rw[if_pos harr]
         rw[htk] at hlv
         subst harr
         rcases hv with ⟨rfl,rfl,rfl⟩|⟨b,rfl,hB,hpos⟩
         ·simp (maxSteps:=4000000) [-getElem?_pos,-Prod.exists,hkc,hy,q1,hk,hne,hne',hik',hW,h1m,hz0,writeCells]
          repeat (rw[qn];rotate_left;(· (try unfold most);omega);simp (maxSteps:=4000000) [-getElem?_pos,-Prod.exists,hkc,hy,q1,hk,hne,hne',hik',hW,h1m,hz0,writeCells])
          exact⟨(.ms 187 2 S.length 0 1,S++[[.int .u8 62,.str []]],k),⟨[(62,[])],.inr ⟨S.length,rfl,BoxK.new (by simp) (Nat.le_refl _) (62,[]),by simp⟩,by simp;omega,by simp;omega,by simpa using hlv⟩,by simp;omega,by simp⟩
         ·have hg:=hB.get
          have hfl:=flat_lenK l
          have hll:=hw3 l.length (by omega)
          have hgs:∀X:List AV,(S.set b []++[X])[S.length]? = some X:=fun X=>by simp
          have hlz:IntKind.i64.wrap (l.length:Int)=l.length:=qh (by omega)
          have htk1:∀a b:AV,(flat (l.map tkF)++[a,b]).take (l.length*2)=flat (l.map tkF):=fun a b=>by rw[← hfl];simp
          have htk2:∀a b:AV,(flat (l.map tkF)++[a,b]).drop (l.length*2+2)=[]:=fun a b=>List.drop_eq_nil_of_le (by simp[hfl])
          simp (maxSteps:=4000000) [-getElem?_pos,-Prod.exists,hkc,hy,q1,hk,hne,hne',hik',hW,hlm,hg,hfl,hpos,hll,hlz,hgs,htk1,htk2,writeCells]
          repeat (rw[qn];rotate_left;(· (try unfold most);omega);simp (maxSteps:=4000000) [-getElem?_pos,-Prod.exists,hkc,hy,q1,hk,hne,hne',hik',hW,hlm,hg,hfl,hpos,hll,hlz,hgs,htk1,htk2,writeCells])
          exact⟨(.ms 187 2 S.length 0 (l.length+1),S.set b []++[flat (l.map tkF)++[.int .u8 62,.str []]],k),⟨l++[(62,[])],.inr ⟨S.length,by simp,by simpa using hB.app (62,[]),by simp⟩,by simp;omega,by simp;omega,by simpa using hlv⟩,by simp;omega,by simp⟩
        ·have htk:tkW W=(119,W):=by unfold tkW;rw[if_neg harr]
         rw[htk] at hlv
         have harr':(W==[61,62])=false:=by simpa using harr
         rcases hv with ⟨rfl,rfl,rfl⟩|⟨b,rfl,hB,hpos⟩
         ·simp (maxSteps:=4000000) [-getElem?_pos,-Prod.exists,hkc,hy,q1,hk,hne,hne',hik',hW,h1m,harr',harr]
          repeat (rw[qn];rotate_left;(· (try unfold most);omega);simp (maxSteps:=4000000) [-getElem?_pos,-Prod.exists,hkc,hy,q1,hk,hne,hne',hik',hW,h1m,harr',harr])
          exact⟨(.ms 187 2 S.length 0 1,S++[[.int .u8 119,.str W]],k),⟨[(119,W)],.inr ⟨S.length,rfl,BoxK.new (by simp) (Nat.le_refl _) (119,W),by simp⟩,by simp;omega,by simp;omega,by simpa using hlv⟩,by simp;omega,by simp⟩
         ·have hg:=hB.get
          have hfl:=flat_lenK l
          simp (maxSteps:=4000000) [-getElem?_pos,-Prod.exists,hkc,hy,q1,hk,hne,hne',hik',hW,hlm,hg,hfl,hpos,harr',harr]
          repeat (rw[qn];rotate_left;(· (try unfold most);omega);simp (maxSteps:=4000000) [-getElem?_pos,-Prod.exists,hkc,hy,q1,hk,hne,hne',hik',hW,hlm,hg,hfl,hpos,harr',harr])
          exact⟨(.ms 187 2 S.length 0 (l.length+1),S.set b []++[flat (l.map tkF)++[.int .u8 119,.str W]],k),⟨l++[(119,W)],.inr ⟨S.length,by simp,by simpa using hB.app (119,W),by simp⟩,by simp;omega,by simp;omega,by simpa using hlv⟩,by simp;omega,by simp⟩
     ·have hkl:k=s.length:=by omega
      have hne:k≠i:=by omega
      have hlv:=leave hne (.inl hkl)
      obtain⟨W,hW⟩:∃W,(s.take k).drop i=W:=⟨_,rfl⟩
      rw[hW] at hlv
      have hne':¬((k:Int)=(i:Int)):=by omega
      have hik':i≤k:=hik
      have hz0:IntKind.i64.wrap 0=0:=by decide
      have hw3:∀n:Nat,n<2^40→IntKind.i64.wrap ((n:Int)+1-1)=n:=fun n hn=>by rw[show (n:Int)+1-1=n by omega];exact qh (by omega)
      by_cases harr:W=[61,62]
      ·have htk:tkW W=(62,[]):=by unfold tkW;rw[if_pos harr]
       rw[htk] at hlv
       subst harr
       rcases hv with ⟨rfl,rfl,rfl⟩|⟨b,rfl,hB,hpos⟩
       ·simp (maxSteps:=4000000) [-getElem?_pos,-Prod.exists,hkc,hk,hne,hne',hik',hW,h1m,hz0,writeCells]
        repeat (rw[qn];rotate_left;(· (try unfold most);omega);simp (maxSteps:=4000000) [-getElem?_pos,-Prod.exists,hkc,hk,hne,hne',hik',hW,h1m,hz0,writeCells])
        exact⟨(.ms 187 2 S.length 0 1,S++[[.int .u8 62,.str []]],k),⟨[(62,[])],.inr ⟨S.length,rfl,BoxK.new (by simp) (Nat.le_refl _) (62,[]),by simp⟩,by simp;omega,by simp;omega,by simpa using hlv⟩,by simp;omega,by simp⟩
       ·have hg:=hB.get
        have hfl:=flat_lenK l
        have hll:=hw3 l.length (by omega)
        have hgs:∀X:List AV,(S.set b []++[X])[S.length]? = some X:=fun X=>by simp
        have hlz:IntKind.i64.wrap (l.length:Int)=l.length:=qh (by omega)
        have htk1:∀a b:AV,(flat (l.map tkF)++[a,b]).take (l.length*2)=flat (l.map tkF):=fun a b=>by rw[← hfl];simp
        have htk2:∀a b:AV,(flat (l.map tkF)++[a,b]).drop (l.length*2+2)=[]:=fun a b=>List.drop_eq_nil_of_le (by simp[hfl])
        simp (maxSteps:=4000000) [-getElem?_pos,-Prod.exists,hkc,hk,hne,hne',hik',hW,hlm,hg,hfl,hpos,hll,hlz,hgs,htk1,htk2,writeCells]
        repeat (rw[qn];rotate_left;(· (try unfold most);omega);simp (maxSteps:=4000000) [-getElem?_pos,-Prod.exists,hkc,hk,hne,hne',hik',hW,hlm,hg,hfl,hpos,hll,hlz,hgs,htk1,htk2,writeCells])
        exact⟨(.ms 187 2 S.length 0 (l.length+1),S.set b []++[flat (l.map tkF)++[.int .u8 62,.str []]],k),⟨l++[(62,[])],.inr ⟨S.length,by simp,by simpa using hB.app (62,[]),by simp⟩,by simp;omega,by simp;omega,by simpa using hlv⟩,by simp;omega,by simp⟩
      ·have htk:tkW W=(119,W):=by unfold tkW;rw[if_neg harr]
       rw[htk] at hlv
       have harr':(W==[61,62])=false:=by simpa using harr
       rcases hv with ⟨rfl,rfl,rfl⟩|⟨b,rfl,hB,hpos⟩
       ·simp (maxSteps:=4000000) [-getElem?_pos,-Prod.exists,hkc,hk,hne,hne',hik',hW,h1m,harr',harr]
        repeat (rw[qn];rotate_left;(· (try unfold most);omega);simp (maxSteps:=4000000) [-getElem?_pos,-Prod.exists,hkc,hk,hne,hne',hik',hW,h1m,harr',harr])
        exact⟨(.ms 187 2 S.length 0 1,S++[[.int .u8 119,.str W]],k),⟨[(119,W)],.inr ⟨S.length,rfl,BoxK.new (by simp) (Nat.le_refl _) (119,W),by simp⟩,by simp;omega,by simp;omega,by simpa using hlv⟩,by simp;omega,by simp⟩
       ·have hg:=hB.get
        have hfl:=flat_lenK l
        simp (maxSteps:=4000000) [-getElem?_pos,-Prod.exists,hkc,hk,hne,hne',hik',hW,hlm,hg,hfl,hpos,harr',harr]
        repeat (rw[qn];rotate_left;(· (try unfold most);omega);simp (maxSteps:=4000000) [-getElem?_pos,-Prod.exists,hkc,hk,hne,hne',hik',hW,hlm,hg,hfl,hpos,harr',harr])
        exact⟨(.ms 187 2 S.length 0 (l.length+1),S.set b []++[flat (l.map tkF)++[.int .u8 119,.str W]],k),⟨l++[(119,W)],.inr ⟨S.length,by simp,by simpa using hB.app (119,W),by simp⟩,by simp;omega,by simp;omega,by simpa using hlv⟩,by simp;omega,by simp⟩
 ·have hi':i=s.length:=by omega
  subst hi'
  rw[List.drop_length,tokB_nil,hT] at he
  cases he
end Go.Proofs.Tryz.Ai
end
