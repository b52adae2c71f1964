/- Part 41 of a proof: a Go function is evaluated on abstract values (texts LMOne .. LMOne); no conditions beyond those of each theorem. -/
import Derived.Test.YthbdimeliiocpaaGreatDoorAi40
set_option linter.all false
set_option linter.unusedVariables false
set_option linter.unusedSimpArgs false
set_option linter.unnecessarySimpa false
section
namespace Go.Proofs.Tryz.Ai
open Go Go.AI Go.Proofs
set_option maxHeartbeats 8000000
set_option maxRecDepth 4000
set_option linter.unusedVariables false
theorem qv0 {f g:Mf} (hf:mfE f=0) (hg:mfE g=0) (h1:(fmtM (canonM f)).length≤65536) (h2:(fmtM (canonM g)).length≤65536):(fmtM (canonM f)==fmtM (canonM g))=alikeB (canonM f) (canonM g):=by
 by_cases h:canonM f=canonM g
 ·rw[h,qc6];simp
 ·rw[qk3 h]
  have a:=qjo (qcn hf) h1 (qco f)
  have b:=qjo (qcn hg) h2 (qco g)
  simp only[beq_eq_false_iff_ne]
  intro e
  rw[e,b] at a
  injection a with a
  exact h a.symm
theorem qv1 (f g:Mf) (hb:MfB f) (hS:MfS f) (hb':MfB g) (hS':MfS g) (σ:List (List AV)):ev1 5 [mfF f,mfF g] σ=some (.bool true,σ):=by
 have hF:=first_eq
 have hN:=fun e σ=>lift (qrj e σ)
 obtain⟨bf,hFw⟩:=qjg f σ
 have hFw:=lift hFw
 obtain⟨bg,hGw⟩:=qjg g σ
 have hGw:=lift hGw
 have hFm:∀g (h1:MfB g) (h2:MfS g) σ,ev1 14 [mfF g] σ=some (.tup [.str (fmtP g).1,.int .i64 (fmtP g).2],σ):=fun g h1 h2 σ=>lift (qg2 g h1 h2 σ)
 have hCC:∀g (h1:MfB g) σ,ev1 18 [mfF g] σ=some (mfF (canonM g),σ):=fun g h1 σ=>lift (qfw g h1 σ)
 have hA:∀a b (h1:MfB a) (h2:MfB b) σ,ev1 17 [mfF a,mfF b] σ=some (.bool (alikeB a b),σ):=fun a b h1 h2 σ=>lift (qno a b h1 h2 σ)
 have hFf:=fun σ=>hFm f hb hS σ
 have hFg:=fun σ=>hFm g hb' hS' σ
 have hCf:=fun σ=>hCC f hb σ
 have hCg:=fun σ=>hCC g hb' σ
 have h1:(∃e,fmtP f=([],e)∧e≠0)∨(∃s e,fmtP f=(s,0)∧fmtP g=([],e)∧e≠0)∨∃s t c d r,fmtP f=(s,0)∧fmtP g=(t,0)∧canonM f=c∧canonM g=d∧(s==t)=r ∧
   (∀σ,ev1 17 [mfF c,mfF d] σ=some (.bool r,σ))∧(∀σ,ev1 17 [mfF c,mfF c] σ=some (.bool true,σ))∧∀σ,ev1 18 [mfF c] σ=some (mfF c,σ):=by
  rcases fmt_cases (f:=f) with h|⟨s,k1,k2,k3,k4⟩
  ·exact .inl h
  ·rcases fmt_cases (f:=g) with h|⟨t,l1,l2,l3,l4⟩
   ·obtain⟨e,h1,h2⟩:=h
    exact .inr (.inl ⟨s,e,k1,h1,h2⟩)
   ·have hc:=(qev (qcn k4)).B.1
    have hd:=(qev (qcn l4)).B.1
    refine .inr (.inr ⟨s,t,canonM f,canonM g,_,k1,l1,rfl,rfl,rfl,fun σ=>?_,fun σ=>by rw[hA _ _ hc hc,qc6],fun σ=>by rw[hCC _ hc,qco]⟩)
    rw[hA _ _ hc hd,k2,l2,qv0 k4 l4 (by rw[← k2];exact k3) (by rw[← l2];exact l3)]
 clear hFm hCC hA
 rw[mfFx] at hFw hGw hFf hFg hCf hCg
 rw[mfFx,mfFx]
 refine qf rfl Tryz.func5 rfl (by simp[Tryz.ntmps5]) (by kernel_rfl) (by kernel_rfl) ?_
 cases bf with
 | false=>simp (maxSteps:=4000000) [hF,hFw,hGw,Tryz.results5]
 | true =>
 cases bg with
 | false=>simp (maxSteps:=4000000) [hF,hFw,hGw,Tryz.results5]
 | true =>
 rcases h1 with ⟨e,k1,k2⟩|⟨s,e,k0,k1,k2⟩|⟨s,t,c,d,r,k1,k2,k3,k4,k5,k6,k7,k8⟩
 ·rw[k1] at hFf
  simp only at hFf
  simp (maxSteps:=4000000) [hF,hFw,hGw,hFf,hFg,hN,k2,Tryz.results5]
 ·rw[k0] at hFf
  rw[k1] at hFg
  simp only at hFf hFg
  simp (maxSteps:=4000000) [hF,hFw,hGw,hFf,hFg,hN,k2,Tryz.results5]
 ·rw[k1] at hFf
  rw[k2] at hFg
  rw[k3] at hCf
  rw[k4] at hCg
  rw[mfFx] at hCf hCg k6 k7 k8
  rw[mfFx] at k6
  simp only at hFf hFg
  simp (maxSteps:=4000000) [-Prod.exists,-Prod.forall,-qb,hF,hFw,hGw,hFf,hFg,hN]
  cases r with
  | true =>
   refine qg [] _ (k:=?_)
   repeat (first|refine qd _ (hs:=by simp (maxSteps:=4000000) [-beq_iff_eq,hCf,hCg,k5,k6,k7,k8];exact rfl) (k:=?_)|refine qe _ (k:=?_))
   refine qc ?_
   simp (maxSteps:=4000000) [Tryz.results5]
  | false =>
   refine qg [] _ (k:=?_)
   repeat (first|refine qd _ (hs:=by simp (maxSteps:=4000000) [-beq_iff_eq,-beq_eq_false_iff_ne,hCf,hCg,k5,k6,k7,k8];exact rfl) (k:=?_)|refine qe _ (k:=?_))
   refine qc ?_
   simp (maxSteps:=4000000) [Tryz.results5]
theorem moneLaw (f g:MfT) (hs:MfSm (mfO f)) (hs':MfSm (mfO g)) (σ:List (List AV)):ev1 5 [mfF (mfO f),mfF (mfO g)] σ=some (.bool true,σ):=qv1 (mfO f) (mfO g) hs.B.1 hs.B.2 hs'.B.1 hs'.B.2 σ
end Go.Proofs.Tryz.Ai
end
