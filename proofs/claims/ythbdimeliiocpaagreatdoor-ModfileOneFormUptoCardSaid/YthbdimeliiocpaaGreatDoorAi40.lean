/- Part 40 of a proof: a Go function is evaluated on abstract values (texts LMBack .. LMBack); no conditions beyond those of each theorem. -/
import Derived.Test.YthbdimeliiocpaaGreatDoorAi35
import Derived.Test.YthbdimeliiocpaaGreatDoorAi36
import Derived.Test.YthbdimeliiocpaaGreatDoorAi38
set_option linter.all false
set_option linter.unusedVariables false
set_option linter.unusedSimpArgs false
set_option linter.unnecessarySimpa false
section
namespace Go.Proofs.Tryz.Ai
open Go Go.AI Go.Proofs
set_option maxHeartbeats 8000000
set_option maxRecDepth 4000
set_option linter.unusedVariables false
theorem MfSm.B {f:Mf} (h:MfSm f):MfB f∧MfS f:=by
 obtain⟨h1,h2,h3,h4,h5,h6,h7,h8,h9,h10⟩:=h
 refine⟨⟨by omega,by omega,by omega,by omega,by omega,by omega,fun x hx=>?_,fun x hx=>?_,fun x hx=>?_,fun x hx=>?_⟩,⟨by omega,by omega,fun x hx=>?_,fun x hx=>?_,fun x hx=>?_,fun x hx=>?_⟩⟩
 ·have:=h7 x hx;omega
 ·have:=h8 x hx;exact⟨by omega,by omega⟩
 ·have:=h9 x hx;exact⟨⟨by omega,by omega⟩,⟨by omega,by omega⟩⟩
 ·have:=h10 x hx;exact⟨by omega,by omega⟩
 ·have:=h7 x hx;exact⟨by simp only;omega,by simp only;omega⟩
 ·have:=h8 x hx;exact⟨by omega,by omega⟩
 ·have:=h9 x hx;exact⟨⟨by omega,by omega⟩,⟨by omega,by omega⟩⟩
 ·have:=h10 x hx;exact⟨by omega,by omega⟩
theorem qev {f:Mf} (h:mfE f=0):MfSm f:=by
 obtain⟨h1,h2,_⟩:=qeh.1 h
 have hm:=(qc5 h1).2
 have hg:f.g.length≤11:=by
  rcases h2.go with h|h
  ·rw[h];simp
  ·exact (qmg h).2
 obtain⟨k1,k2,k3,k4⟩:=h2.most
 refine⟨by omega,by omega,by omega,by omega,by omega,by omega,fun x hx=>?_,fun x hx=>?_,fun x hx=>?_,fun x hx=>?_⟩
 ·obtain⟨_,a,_,b⟩:=qbf (h2.rq x hx);omega
 ·obtain⟨_,a,_,b⟩:=qbf (h2.ex x hx);omega
 ·obtain⟨a,b,c⟩:=qjl.1 (h2.rp x hx)
  have a:=(qc5 a).2
  obtain⟨_,c1,_,c2⟩:=qbf c
  have:x.1.2.length≤60:=by
   rcases b with b|b
   ·rw[b];simp
   ·exact (qbf b).2.2.2
  omega
 ·obtain⟨a,b⟩:=qjm (h2.rt x hx)
  have:=(qeg a).2
  have:=(qeg b).2
  omega
theorem qc6 (a:Mf):alikeB a a=true:=qfa.2 rfl
theorem fmtP_no {f:Mf} (h:mfE f≠0):fmtP f=([],mfE f):=by unfold fmtP;rw[if_pos h]
theorem fmtP_long {f:Mf} (h:mfE f=0) (hl:65536<(fmtM (canonM f)).length):fmtP f=([],13):=by unfold fmtP;rw[if_neg (by simpa using h),if_pos hl]
theorem fmtP_ok {f:Mf} (h:mfE f=0) (hl:¬65536<(fmtM (canonM f)).length):fmtP f=(fmtM (canonM f),0):=by unfold fmtP;rw[if_neg (by simpa using h),if_neg hl]
theorem qfc {t:List UInt8} {f:Mf} (h:parseP t=.ok f):parseAV t=.tup [mfF f,.int .i64 0,.int .i64 0]:=by unfold parseAV;rw[h]
theorem qmj {t:List UInt8} {n e:Int} (h:parseP t=.error (n,e)):parseAV t=.tup [mfF mf0,.int .i64 n,.int .i64 e]:=by unfold parseAV;rw[h]
theorem fmt_cases {f:Mf}:(∃e,fmtP f=([],e)∧e≠0)∨∃s,fmtP f=(s,0)∧s=fmtM (canonM f)∧s.length≤65536∧mfE f=0:=by
 by_cases h:mfE f=0
 ·by_cases hl:65536<(fmtM (canonM f)).length
  ·exact .inl ⟨13,fmtP_long h hl,by decide⟩
  ·exact .inr ⟨_,fmtP_ok h hl,rfl,by omega,h⟩
 ·exact .inl ⟨_,fmtP_no h,h⟩
theorem mf0_B:MfB mf0:=⟨by simp[mf0],by simp[mf0],by simp[mf0],by simp[mf0],by simp[mf0],by simp[mf0],by simp[mf0],by simp[mf0],by simp[mf0],by simp[mf0]⟩
theorem qo4 (σ:List (List AV)):ev 17 [.agg [.str [],.str [],.sl .sh [],.sl .sh [],.sl .sh [],.sl .sh []],.agg [.str [],.str [],.sl .nil [],.sl .nil [],.sl .nil [],.sl .nil []]] σ=some (.bool true,σ):=by
 have h1:=fun σ=>qs0 [] [] [] [] [] [] (by simp) (by simp) (by simp) (by simp) σ
 have h2:=fun σ=>qs1 mf0 mf0 mf0_B σ
 rw[qc6] at h2
 simp only[mfFx,mf0,List.map_nil] at h1 h2
 refine qf rfl Tryz.func17 rfl (by simp[Tryz.ntmps17]) (by kernel_rfl) (by kernel_rfl) ?_
 simp (maxSteps:=4000000) [-qb]
 refine qg [] _ (k:=?_)
 repeat (first|refine qd _ (hs:=by simp (maxSteps:=4000000) [h1,h2];exact rfl) (k:=?_)|refine qe _ (k:=?_))
 refine qc ?_
 simp (maxSteps:=4000000) [Tryz.results17]
theorem qs9 (f:Mf) (hb:MfB f) (hS:MfS f) (text:List UInt8) (σ:List (List AV)):ev1 3 [mfF f,.str text] σ=some (.bool true,σ):=by
 have hF:=first_eq
 have hN:=fun e σ=>lift (qrj e σ)
 obtain⟨bf,hFw⟩:=qjg f σ
 have hFw:=lift hFw
 have hP:∀t σ,ev1 16 [.str t] σ=some (parseAV t,σ):=fun t σ=>qjf t σ
 have hFm:∀g (h1:MfB g) (h2:MfS g) σ,ev1 14 [mfF g] σ=some (.tup [.str (fmtP g).1,.int .i64 (fmtP g).2],σ):=fun g h1 h2 σ=>lift (qg2 g h1 h2 σ)
 have hC:∀σ,ev1 18 [mfF f] σ=some (mfF (canonM f),σ):=fun σ=>lift (qfw f hb σ)
 have hA:∀a (h1:MfB a) σ,ev1 17 [mfF a,mfF a] σ=some (.bool true,σ):=fun a h1 σ=>by have:=lift (qno a a h1 h1 σ);rwa [qc6] at this
 have hK:∀g (h1:MfB g) σ,ev1 19 [mfF g] σ=some (.int .i64 (mfE g),σ):=fun g h1 σ=>lift (qku g h1 σ)
 have hF0:=fun σ=>hFm f hb hS σ
 have hA0:=fun σ=>lift (qo4 σ)
 rw[mfFx] at hFw hF0 hC ⊢
 have h1:(∃e,fmtP f=([],e)∧e≠0)∨∃s c,fmtP f=(s,0)∧canonM f=c∧(∀σ,ev1 16 [.str s] σ=some (.tup [mfF c,.int .i64 0,.int .i64 0],σ))∧∀σ,ev1 17 [mfF c,mfF c] σ=some (.bool true,σ):=by
  rcases fmt_cases (f:=f) with h|⟨s,k1,k2,k3,k4⟩
  ·exact .inl h
  ·have hc:=qcn k4
   have hp:=qjo hc (by rw[← k2];exact k3) (qco f)
   rw[← k2] at hp
   exact .inr ⟨s,canonM f,k1,rfl,fun σ=>by rw[hP,qfc hp],hA _ (qev hc).B.1⟩
 have h2:(∃n e,e≠0∧∀σ,ev1 16 [.str text] σ=some (.tup [mfF mf0,.int .i64 n,.int .i64 e],σ)) ∨
   ∃h,(∀σ,ev1 16 [.str text] σ=some (.tup [mfF h,.int .i64 0,.int .i64 0],σ))∧((4000<text.length∧∀σ,ev1 14 [mfF h] σ=some (.tup [.str [],.int .i64 13],σ)) ∨
    ∃t,(∀σ,ev1 14 [mfF h] σ=some (.tup [.str t,.int .i64 0],σ))∧(∀σ,ev1 16 [.str t] σ=some (.tup [mfF h,.int .i64 0,.int .i64 0],σ))∧(∀σ,ev1 17 [mfF h,mfF h] σ=some (.bool true,σ))∧∀σ,ev1 19 [mfF h] σ=some (.int .i64 0,σ)):=by
  cases hp:parseP text with
  | error x =>
   obtain⟨n,e⟩:=x
   exact .inl ⟨n,e,qs4 hp,fun σ=>by rw[hP,qmj hp]⟩
  | ok h =>
   obtain⟨q1,q2⟩:=qky hp
   have hs:=(qev q1).B
   refine .inr ⟨h,fun σ=>by rw[hP,qfc hp],?_⟩
   by_cases hl:65536<(fmtM (canonM h)).length
   ·refine .inl ⟨?_,fun σ=>by rw[hFm h hs.1 hs.2,fmtP_long q1 hl]⟩
    rcases Nat.lt_or_ge 4000 text.length with h|h
    ·exact h
    ·have:=qmi hp h
     rw[q2] at hl;omega
   ·refine .inr ⟨fmtM h,fun σ=>by rw[hFm h hs.1 hs.2,fmtP_ok q1 hl,q2],fun σ=>?_,hA h hs.1,fun σ=>by rw[hK h hs.1,q1]⟩
    rw[hP,qfc (qjo q1 (by rw[q2] at hl;omega) q2)]
 clear hP hFm hA hK
 refine qf rfl Tryz.func3 rfl (by simp[Tryz.ntmps3]) (by kernel_rfl) (by kernel_rfl) ?_
 cases bf with
 | false=>simp (maxSteps:=4000000) [hF,hFw,Tryz.results3]
 | true =>
 by_cases hl:8000<text.length
 ·simp (maxSteps:=4000000) [hF,hFw,hl,Tryz.results3]
 have tail:True:=trivial
 rcases h1 with ⟨e,k1,k2⟩|⟨s,c,k1,k2,k3,k4⟩
 ·rw[k1] at hF0
  simp only at hF0
  rcases h2 with ⟨n,e',q1,q2⟩|⟨h,q1,q2⟩
  ·rw[mfFx] at q2
   simp only[mf0,List.map_nil] at q2
   simp (maxSteps:=4000000) [hF,hFw,hl,hF0,hN,k2,q2,q1,hA0,Tryz.results3]
  ·rcases q2 with ⟨r1,r2⟩|⟨t,r1,r2,r3,r4⟩
   ·rw[mfFx] at q1 r2
    simp (maxSteps:=4000000) [hF,hFw,hl,hF0,hN,k2,q1,r1,r2,Tryz.results3]
   ·rw[mfFx] at q1 r1 r2 r3 r4
    simp (maxSteps:=4000000) [hF,hFw,hl,hF0,hN,k2,q1,r1,r2,r3,r4,Tryz.results3]
 ·rw[k1] at hF0
  rw[k2] at hC
  rw[mfFx] at hC k3 k4
  simp only at hF0
  simp (maxSteps:=4000000) [-Prod.exists,-Prod.forall,-qb,hF,hFw,hl,hF0,hN,k3]
  refine qg [] _ (k:=?_)
  repeat (first|refine qd _ (hs:=by simp (maxSteps:=4000000) [hC,k4,hN];exact rfl) (k:=?_)|refine qe _ (k:=?_))
  refine qc ?_
  rcases h2 with ⟨n,e',q1,q2⟩|⟨h,q1,q2⟩
  ·rw[mfFx] at q2
   simp only[mf0,List.map_nil] at q2
   simp (maxSteps:=4000000) [hN,q2,q1,hA0,Tryz.results3]
  ·rcases q2 with ⟨r1,r2⟩|⟨t,r1,r2,r3,r4⟩
   ·rw[mfFx] at q1 r2
    simp (maxSteps:=4000000) [hN,q1,r1,r2,Tryz.results3]
   ·rw[mfFx] at q1 r1 r2 r3 r4
    simp (maxSteps:=4000000) [hN,q1,r1,r2,r3,r4,Tryz.results3]
theorem mbackLaw (f:MfT) (text:List UInt8) (hs:MfSm (mfO f)) (_:text.length≤1048576) (σ:List (List AV)):ev1 3 [mfF (mfO f),.str text] σ=some (.bool true,σ):=qs9 (mfO f) hs.B.1 hs.B.2 text σ
end Go.Proofs.Tryz.Ai
end
