/- Part 26 of a proof: Go functions are evaluated on abstract values; no conditions beyond those of each theorem. -/
import Derived.Test.YtjkkcelnfokplaaGreatDoorFi25
set_option linter.all false
set_option maxHeartbeats 16000000
set_option maxRecDepth 4000
section
namespace Go.Proofs.Tryz.Ai
open Go Go.AI Go.Proofs
def minorB (s:List UInt8):Option Nat:=if [49,46].isPrefixOf s then (numB (s.drop 2)).bind fun k=>if k≤999 then some k else none else none
def minorN (s:List UInt8):List UInt8:=if [49,46].isPrefixOf s then s.drop 2 else s
def minorV (s:List UInt8):Int:=match Lib.atoiAll (minorN s) with
 | .ok v=>v
 | .range=>Lib.atoiSat (minorN s)
 | _=>0
theorem qib {s:List UInt8} {v:Int} (h:Lib.atoiAll (s.drop 2)=.ok v):minorB s=if [49,46].isPrefixOf s then (if 0≤v∧v≤999∧Lib.decDigits v.toNat=s.drop 2 then some v.toNat else none) else none:=by
 unfold minorB
 split
 ·split
  ·rename_i h2
   rw[← h2.2.2,qum,if_pos (by omega)]
   simp only[Option.bind_some]
   rw[if_pos (by omega)]
  ·rename_i h2
   cases hn:numB (s.drop 2) with
   | none=>rfl
   | some k =>
    simp only[Option.bind_some]
    rw[if_neg]
    intro hk
    unfold numB at hn
    split at hn
    ·rename_i ho
     simp only[numOk,allB,Bool.and_eq_true,Bool.not_eq_true',List.isEmpty_eq_false_iff,decide_eq_true_eq] at ho
     injection hn with hn
     have hd:=qh8 (s.drop 2) ho.1.1.1 ho.1.2
     have ha:=qgo (s.drop 2) ho.1.1.1 ho.1.1.2 (by omega)
     rw[h] at ha
     injection ha with ha
     apply h2
     subst ha
     refine⟨by omega,by omega,?_⟩
     rw[show (((valB (s.drop 2):Nat):Int)).toNat=valB (s.drop 2) by simp];exact hd
    ·cases hn
 ·rfl
theorem qic {s:List UInt8} (h:∀v,Lib.atoiAll (s.drop 2)≠.ok v):minorB s=none:=by
 unfold minorB
 split
 ·cases hn:numB (s.drop 2) with
  | none=>rfl
  | some k =>
   exfalso
   unfold numB at hn
   split at hn
   ·rename_i ho
    simp only[numOk,allB,Bool.and_eq_true,Bool.not_eq_true',List.isEmpty_eq_false_iff,decide_eq_true_eq] at ho
    exact h _ (qgo (s.drop 2) ho.1.1.1 ho.1.1.2 (by omega))
   ·cases hn
 ·rfl
theorem qnp (s:List UInt8) (hs:s.length≤2^29) (σ):ev 72 [.str s] σ=some (.tup [.int .i64 (minorV s),.bool (minorB s).isSome],σ):=by
 have hc:=qfh s [49,46] (by omega) (by simp)
 have hat:=fun σ=>qrd [.str (minorN s)] σ
 have hlen:(minorN s).length≤s.length:=by unfold minorN;split<;>simp
 have hmV:minorV s=match Lib.atoiAll (minorN s) with
  | .ok v=>v
  | .range=>Lib.atoiSat (minorN s)
  | _=>0:=rfl
 have hnn:(if [49,46].isPrefixOf s=true then s.drop 2 else s)=minorN s:=rfl
 simp only[List.length_cons,List.length_nil,Nat.zero_add,Nat.reduceAdd,hnn] at hc
 simp only[atoiT] at hat
 have hat':=fun σ=>(hat σ).trans (qo (by omega))
 clear hat
 cases hp:[49,46].isPrefixOf s with
 | false =>
  have hB:minorB s=none:=by unfold minorB;rw[hp];rfl
  rw[hp] at hc
  rw[hB]
  rcases hq:Lib.atoiAll (minorN s) with v|_|_<;>rw[hq] at hmV<;>simp only[hq] at hat'<;>simp only at hmV
  all_goals
   refine qk func72 ntmps72 ?_
   simp (maxSteps:=mS) [hc,hat',hmV,results72]
 | true =>
  have hN:minorN s=s.drop 2:=by unfold minorN;rw[hp];rfl
  rw[hp] at hc
  have hC:(minorN s).length≤s.length:=hlen
  rcases hq:Lib.atoiAll (minorN s) with v|_|_<;>rw[hq] at hmV<;>simp only[hq] at hat'<;>simp only at hmV
  ·rw[hN] at hq
   have hB:=qib hq
   rw[hp,if_pos rfl,← hN] at hB
   by_cases h0:0≤v
   ·by_cases h9:v≤999
    ·obtain⟨k,rfl⟩:∃k:Nat,v=(k:Int):=⟨v.toNat,by omega⟩
     have hI:=qyn k (by omega)
     have hk0:(0:Int)≤(k:Int):=by omega
     have hk9:k≤999:=by omega
     have hkt:((k:Int)).toNat=k:=by simp
     rw[hkt] at hB
     by_cases hd:Lib.decDigits k=minorN s
     ·rw[if_pos ⟨h0,h9,hd⟩] at hB
      have hd':(Lib.decDigits k==minorN s)=true:=by simpa using hd
      refine qk func72 ntmps72 ?_
      simp (maxSteps:=mS) [hc,hat',hmV,hI,hk9,hd',hB,results72]
     ·rw[if_neg (fun h=>hd h.2.2)] at hB
      have hd':(Lib.decDigits k==minorN s)=false:=by simpa using hd
      refine qk func72 ntmps72 ?_
      simp (maxSteps:=mS) [hc,hat',hmV,hI,hk9,hd',hB,results72]
    ·rw[if_neg (fun h=>h9 h.2.1)] at hB
     refine qk func72 ntmps72 ?_
     simp (maxSteps:=mS) [hc,hat',hmV,h0,h9,hB,results72]
   ·rw[if_neg (fun h=>h0 h.1)] at hB
    refine qk func72 ntmps72 ?_
    simp (maxSteps:=mS) [hc,hat',hmV,h0,hB,results72]
  all_goals
   have hB:minorB s=none:=qic fun v hv=>by rw[← hN,hq] at hv;cases hv
   refine qk func72 ntmps72 ?_
   simp (maxSteps:=mS) [hc,hat',hmV,hB,results72]
def rpE (x:Rp):Int:=fstE [fstE [(pathB x.1.1:Int),if x.1.2=[] then 0 else (checkB x.1.1 x.1.2:Int)],(checkB x.2.1 x.2.2:Int)]
def qcu (m:List UInt8×List UInt8):Prop:=m.1.length≤2^29∧m.2.length≤2^29
theorem qgy (x:Rp) (h1:qcu x.1) (h2:qcu x.2) (σ):ev 81 [rpF x] σ=some (.int .i64 (rpE x),σ):=by
 obtain⟨⟨x1,x2⟩,x3,x4⟩:=x
 obtain⟨a1,a2⟩:=h1
 obtain⟨a3,a4⟩:=h2
 simp only at a1 a2 a3 a4
 have hP:=qb4 x1 (by omega)
 have hC1:=qer x1 x2 (by omega) (by omega)
 have hC2:=qer x3 x4 (by omega) (by omega)
 have h7:=fun a b=>qa7 [a,b] (by simp)
 have hA:rpE ((x1,x2),x3,x4)=fstE [fstE [(pathB x1:Int),if x2=[] then 0 else (checkB x1 x2:Int)],(checkB x3 x4:Int)]:=rfl
 have hz:∀a b,fstE [fstE [a,0],b]=fstE [a,b]:=fun a b=>by simp[fstE,orI];split<;>simp_all
 simp only[rpFx]
 obtain⟨p,hp⟩:∃p:Int,(pathB x1:Int)=p:=⟨_,rfl⟩
 obtain⟨c1,hc1⟩:∃p:Int,(checkB x1 x2:Int)=p:=⟨_,rfl⟩
 obtain⟨c2,hc2⟩:∃p:Int,(checkB x3 x4:Int)=p:=⟨_,rfl⟩
 rw[hp] at hP
 rw[hc1] at hC1
 rw[hc2] at hC2
 rw[hp,hc1,hc2] at hA
 simp only[List.map_cons,List.map_nil] at h7
 refine qk func81 ntmps81 ?_
 by_cases hx:x2=[]
 ·subst hx
  rw[if_pos rfl,hz] at hA
  simp (maxSteps:=mS) [hP,hC1,hC2,h7,hA,results81]
 ·rw[if_neg hx] at hA
  have hx':(x2==[])=false:=by simpa using hx
  simp (maxSteps:=mS) [hP,hC1,hC2,h7,hx,hx',hA,results81]
def rtE (x:Rt):Int:=fstE [if (readB x.1).isSome&&(readB x.2).isSome then 0 else 8,if cmpB x.1 x.2>0 then 6 else 0]
theorem qgz (x:Rt) (h:qcu x) (σ):ev 84 [rtF x] σ=some (.int .i64 (rtE x),σ):=by
 obtain⟨x1,x2⟩:=x
 obtain⟨a1,a2⟩:=h
 simp only at a1 a2
 have hV1:=qjg x1 (by omega)
 have hV2:=qjg x2 (by omega)
 have hC:=qgt x1 x2 (by omega) (by omega)
 have hW:=fun b e=>qa8 b e
 have h7:=fun a b=>qa7 [a,b] (by simp)
 have hA:rtE (x1,x2)=fstE [if (readB x1).isSome&&(readB x2).isSome then 0 else 8,if cmpB x1 x2>0 then 6 else 0]:=rfl
 rw[hA]
 obtain⟨v1,hv1⟩:∃b,(readB x1).isSome=b:=⟨_,rfl⟩
 obtain⟨v2,hv2⟩:∃b,(readB x2).isSome=b:=⟨_,rfl⟩
 obtain⟨c,hc⟩:∃c,cmpB x1 x2=c:=⟨_,rfl⟩
 rw[hv1] at hV1
 rw[hv2] at hV2
 rw[hc] at hC
 rw[hv1,hv2,hc]
 simp only[rtFx]
 simp only[List.map_cons,List.map_nil] at h7
 refine qk func84 ntmps84 ?_
 cases v1<;>cases v2<;>by_cases hc0:c>0
 all_goals
  simp (maxSteps:=mS) [-qb]
  refine qg [] _ (k:=?_)
  repeat (first|refine qd _ (hs:=by simp (maxSteps:=mS) [hV1,hV2,hC,hW,h7,hc0];exact rfl) (k:=?_)|refine qe _ (k:=?_))
  refine qc ?_
  simp (maxSteps:=mS) [hc0,results84]
end Go.Proofs.Tryz.Ai
end
section
namespace Go.Proofs.Tryz.Ai
open Go Go.AI Go.Proofs
def eachF {α:Type} (own:α→Int) (same:α→α→Bool):List α→List α→Int
 | _,[]=>0
 | a,x::r=>orI (fstE [own x,if a.any (same x) then 12 else 0]) (eachF own same (a++[x]) r)
def eachE {α:Type} (own:α→Int) (same:α→α→Bool) (l:List α):Int:=eachF own same [] l
theorem qe8 {α:Type} {own:α→Int} {same:α→α→Bool} {l:List α} {i:Nat} {x:α} (hx:l[i]? = some x):eachF own same (l.take i) (l.drop i)=orI (fstE [own x,if (l.take i).any (same x) then 12 else 0]) (eachF own same (l.take (i+1)) (l.drop (i+1))):=by
 obtain⟨hi,he⟩:=List.getElem?_eq_some_iff.1 hx
 rw[List.drop_eq_getElem_cons hi,he,eachF,List.take_add_one,hx];rfl
theorem qu9 (l:List (List UInt8×List UInt8)) (hl:l.length≤2^29) (g1 g2 g3:FuncId) (hg1:g1<100000) (hg2:g2<100000) (hg3:g3<100000) (own:List UInt8×List UInt8→Int) (same:List UInt8×List UInt8→List UInt8×List UInt8→Bool) (cs:List UInt8×List UInt8→List AV) (sh:Option (TypeId×Nat))
  (hown:∀x∈l,∀σ,ev g1 [modA x] σ=some (.int .i64 (own x),σ)) (hsame:∀x∈l,∀σ:List (List AV),ev g2 [modA x] σ=some (.fn g3 [.gp σ.length 0 sh],σ++[cs x]))
  (hq:∀x∈l,∀y,∀(σ:List (List AV)) b,σ[b]? = some (cs x)→ev g3 [modA y,.gp b 0 sh] σ=some (.bool (same x y),σ)) (σ:List (List AV)) :
  ev 78 [.sl .sh (l.map modA),.fn g1 [],.fn g2 []] σ=some (.int .i64 (eachE own same l),σ):=by
 have h7:=fun a b=>qa7 [a,b] (by simp)
 simp only[List.map_cons,List.map_nil] at h7
 refine qk func78 ntmps78 ?_
 simp (maxSteps:=mS) []
 refine qf (I:=fun p:Nat×List (List AV)=>⟨[(0,.sl .sh (l.map modA)),(1,.fn g1 []),(2,.fn g2 []),(10,.sl .sh (l.map modA)),(11,.int .i64 l.length),(12,.int .i64 p.1)],[],p.2⟩) (Pr:=fun p=>p.1≤l.length∧eachE own same l=eachF own same (l.take p.1) (l.drop p.1)∧∃J,p.2=σ++J) (μ:=fun p=>l.length-p.1) (a:=(0,σ)) (by simp) ⟨by simp,rfl,[],by simp⟩ ?_
 rintro⟨i,S⟩ ⟨hi,hE,J,hJ⟩
 simp only at hi hE hJ ⊢
 have w1:=wr1 i (by omega)
 by_cases hc:i<l.length
 ·obtain⟨x,hx⟩:=getS hc
  have hxm:=List.mem_of_getElem? hx
  have hst:=qe8 (own:=own) (same:=same) hx
  have f1:=hown x hxm S
  have f2:=hsame x hxm S
  have f3:=qfl (l.take i) (by simp;omega) g3 hg3 [.gp S.length 0 sh] (by simp[args,arg,dem]) (same x) (S++[cs x]) (fun y _=>hq x hxm y _ _ (by simp))
  have f4:=fun b e=>qa8 b e (S++[cs x])
  have f5:=fun a b=>h7 a b (S++[cs x])
  rw[hst] at hE
  rw[List.map_take] at f3
  obtain⟨o,ho⟩:∃o,own x=o:=⟨_,rfl⟩
  obtain⟨t,ht⟩:∃t,(l.take i).any (same x)=t:=⟨_,rfl⟩
  rw[ho] at f1 hE
  rw[ht] at f3 hE
  obtain⟨c,hcs⟩:∃c,cs x=c:=⟨_,rfl⟩
  rw[hcs] at f2 f3 f4 f5
  obtain⟨k1,k2⟩:=x
  simp only[modAx] at f1 f2
  obtain⟨L,hL⟩:∃L,l.map modA=L:=⟨_,rfl⟩
  have hLl:L.length=l.length:=by rw[← hL];simp
  have hLi:L[i]? = some (modA (k1,k2)):=by rw[← hL,List.getElem?_map,hx];rfl
  have hall:allCells 2 L:=by rw[← hL];simp
  simp only[modAx] at hLi
  rw[hL] at f3 ⊢
  have hil:i≤L.length:=by omega
  by_cases h0:fstE [o,if t=true then 12 else 0]=0
  ·rw[h0] at hE
   have hE':eachE own same l=eachF own same (l.take (i+1)) (l.drop (i+1)):=hE
   simp (maxSteps:=mS) [-getElem?_pos,-Prod.exists,-Prod.forall,-qb,hc,hLi]
   refine qg [] _ (k:=?_)
   repeat (first|refine qd _ (hs:=by simp (maxSteps:=mS) [-getElem?_pos,hc,hLi,f1,f2,f3,f4,f5,hg1,hg2,hall,hil];exact rfl) (k:=?_)|refine qe _ (k:=?_))
   refine qc ?_
   simp (maxSteps:=mS) [-Prod.exists,-Prod.forall,h0,w1]
   exact⟨(i+1,S++[c]),⟨by simp;omega,hE',J++[c],by rw[hJ];simp⟩,by simp;omega,by simp⟩
  ·have hE':eachE own same l=fstE [o,if t=true then 12 else 0]:=by rw[hE];unfold orI;rw[if_neg h0]
   simp (maxSteps:=mS) [-getElem?_pos,-Prod.exists,-Prod.forall,-qb,hc,hLi]
   refine qg [] _ (k:=?_)
   repeat (first|refine qd _ (hs:=by simp (maxSteps:=mS) [-getElem?_pos,hc,hLi,f1,f2,f3,f4,f5,hg1,hg2,hall,hil];exact rfl) (k:=?_)|refine qe _ (k:=?_))
   refine qc ?_
   subst hJ
   simp (maxSteps:=mS) [h0,hE',results78]
 ·have hi':i=l.length:=by omega
  subst hi'
  have hE':eachE own same l=0:=by rw[hE,List.drop_length,eachF]
  subst hJ
  simp (maxSteps:=mS) [hE',results78]
theorem qva (l:List (Rp)) (hl:l.length≤2^29) (g1 g2 g3:FuncId) (hg1:g1<100000) (hg2:g2<100000) (hg3:g3<100000) (own:Rp→Int) (same:Rp→Rp→Bool) (cs:Rp→List AV) (sh:Option (TypeId×Nat))
  (hown:∀x∈l,∀σ,ev g1 [rpF x] σ=some (.int .i64 (own x),σ)) (hsame:∀x∈l,∀σ:List (List AV),ev g2 [rpF x] σ=some (.fn g3 [.gp σ.length 0 sh],σ++[cs x]))
  (hq:∀x∈l,∀y,∀(σ:List (List AV)) b,σ[b]? = some (cs x)→ev g3 [rpF y,.gp b 0 sh] σ=some (.bool (same x y),σ)) (σ:List (List AV)) :
  ev 80 [.sl .sh (l.map rpF),.fn g1 [],.fn g2 []] σ=some (.int .i64 (eachE own same l),σ):=by
 have h7:=fun a b=>qa7 [a,b] (by simp)
 simp only[List.map_cons,List.map_nil] at h7
 refine qk func80 ntmps80 ?_
 simp (maxSteps:=mS) []
 refine qf (I:=fun p:Nat×List (List AV)=>⟨[(0,.sl .sh (l.map rpF)),(1,.fn g1 []),(2,.fn g2 []),(10,.sl .sh (l.map rpF)),(11,.int .i64 l.length),(12,.int .i64 p.1)],[],p.2⟩) (Pr:=fun p=>p.1≤l.length∧eachE own same l=eachF own same (l.take p.1) (l.drop p.1)∧∃J,p.2=σ++J) (μ:=fun p=>l.length-p.1) (a:=(0,σ)) (by simp) ⟨by simp,rfl,[],by simp⟩ ?_
 rintro⟨i,S⟩ ⟨hi,hE,J,hJ⟩
 simp only at hi hE hJ ⊢
 have w1:=wr1 i (by omega)
 by_cases hc:i<l.length
 ·obtain⟨x,hx⟩:=getS hc
  have hxm:=List.mem_of_getElem? hx
  have hst:=qe8 (own:=own) (same:=same) hx
  have f1:=hown x hxm S
  have f2:=hsame x hxm S
  have f3:=qfm (l.take i) (by simp;omega) g3 hg3 [.gp S.length 0 sh] (by simp[args,arg,dem]) (same x) (S++[cs x]) (fun y _=>hq x hxm y _ _ (by simp))
  have f4:=fun b e=>qa8 b e (S++[cs x])
  have f5:=fun a b=>h7 a b (S++[cs x])
  rw[hst] at hE
  rw[List.map_take] at f3
  obtain⟨o,ho⟩:∃o,own x=o:=⟨_,rfl⟩
  obtain⟨t,ht⟩:∃t,(l.take i).any (same x)=t:=⟨_,rfl⟩
  rw[ho] at f1 hE
  rw[ht] at f3 hE
  obtain⟨c,hcs⟩:∃c,cs x=c:=⟨_,rfl⟩
  rw[hcs] at f2 f3 f4 f5
  obtain⟨⟨k1,k2⟩,k3,k4⟩:=x
  simp only[rpFx] at f1 f2
  obtain⟨L,hL⟩:∃L,l.map rpF=L:=⟨_,rfl⟩
  have hLl:L.length=l.length:=by rw[← hL];simp
  have hLi:L[i]? = some (rpF ((k1,k2),k3,k4)):=by rw[← hL,List.getElem?_map,hx];rfl
  have hall:allCells 4 L:=by rw[← hL];simp
  simp only[rpFx] at hLi
  rw[hL] at f3 ⊢
  have hil:i≤L.length:=by omega
  by_cases h0:fstE [o,if t=true then 12 else 0]=0
  ·rw[h0] at hE
   have hE':eachE own same l=eachF own same (l.take (i+1)) (l.drop (i+1)):=hE
   simp (maxSteps:=mS) [-getElem?_pos,-Prod.exists,-Prod.forall,-qb,hc,hLi]
   refine qg [] _ (k:=?_)
   repeat (first|refine qd _ (hs:=by simp (maxSteps:=mS) [-getElem?_pos,hc,hLi,f1,f2,f3,f4,f5,hg1,hg2,hall,hil];exact rfl) (k:=?_)|refine qe _ (k:=?_))
   refine qc ?_
   simp (maxSteps:=mS) [-Prod.exists,-Prod.forall,h0,w1]
   exact⟨(i+1,S++[c]),⟨by simp;omega,hE',J++[c],by rw[hJ];simp⟩,by simp;omega,by simp⟩
  ·have hE':eachE own same l=fstE [o,if t=true then 12 else 0]:=by rw[hE];unfold orI;rw[if_neg h0]
   simp (maxSteps:=mS) [-getElem?_pos,-Prod.exists,-Prod.forall,-qb,hc,hLi]
   refine qg [] _ (k:=?_)
   repeat (first|refine qd _ (hs:=by simp (maxSteps:=mS) [-getElem?_pos,hc,hLi,f1,f2,f3,f4,f5,hg1,hg2,hall,hil];exact rfl) (k:=?_)|refine qe _ (k:=?_))
   refine qc ?_
   subst hJ
   simp (maxSteps:=mS) [h0,hE',results80]
 ·have hi':i=l.length:=by omega
  subst hi'
  have hE':eachE own same l=0:=by rw[hE,List.drop_length,eachF]
  subst hJ
  simp (maxSteps:=mS) [hE',results80]
theorem qvb (l:List (Rt)) (hl:l.length≤2^29) (g1 g2 g3:FuncId) (hg1:g1<100000) (hg2:g2<100000) (hg3:g3<100000) (own:Rt→Int) (same:Rt→Rt→Bool) (cs:Rt→List AV) (sh:Option (TypeId×Nat))
  (hown:∀x∈l,∀σ,ev g1 [rtF x] σ=some (.int .i64 (own x),σ)) (hsame:∀x∈l,∀σ:List (List AV),ev g2 [rtF x] σ=some (.fn g3 [.gp σ.length 0 sh],σ++[cs x]))
  (hq:∀x∈l,∀y,∀(σ:List (List AV)) b,σ[b]? = some (cs x)→ev g3 [rtF y,.gp b 0 sh] σ=some (.bool (same x y),σ)) (σ:List (List AV)) :
  ev 83 [.sl .sh (l.map rtF),.fn g1 [],.fn g2 []] σ=some (.int .i64 (eachE own same l),σ):=by
 have h7:=fun a b=>qa7 [a,b] (by simp)
 simp only[List.map_cons,List.map_nil] at h7
 refine qk func83 ntmps83 ?_
 simp (maxSteps:=mS) []
 refine qf (I:=fun p:Nat×List (List AV)=>⟨[(0,.sl .sh (l.map rtF)),(1,.fn g1 []),(2,.fn g2 []),(10,.sl .sh (l.map rtF)),(11,.int .i64 l.length),(12,.int .i64 p.1)],[],p.2⟩) (Pr:=fun p=>p.1≤l.length∧eachE own same l=eachF own same (l.take p.1) (l.drop p.1)∧∃J,p.2=σ++J) (μ:=fun p=>l.length-p.1) (a:=(0,σ)) (by simp) ⟨by simp,rfl,[],by simp⟩ ?_
 rintro⟨i,S⟩ ⟨hi,hE,J,hJ⟩
 simp only at hi hE hJ ⊢
 have w1:=wr1 i (by omega)
 by_cases hc:i<l.length
 ·obtain⟨x,hx⟩:=getS hc
  have hxm:=List.mem_of_getElem? hx
  have hst:=qe8 (own:=own) (same:=same) hx
  have f1:=hown x hxm S
  have f2:=hsame x hxm S
  have f3:=qfn (l.take i) (by simp;omega) g3 hg3 [.gp S.length 0 sh] (by simp[args,arg,dem]) (same x) (S++[cs x]) (fun y _=>hq x hxm y _ _ (by simp))
  have f4:=fun b e=>qa8 b e (S++[cs x])
  have f5:=fun a b=>h7 a b (S++[cs x])
  rw[hst] at hE
  rw[List.map_take] at f3
  obtain⟨o,ho⟩:∃o,own x=o:=⟨_,rfl⟩
  obtain⟨t,ht⟩:∃t,(l.take i).any (same x)=t:=⟨_,rfl⟩
  rw[ho] at f1 hE
  rw[ht] at f3 hE
  obtain⟨c,hcs⟩:∃c,cs x=c:=⟨_,rfl⟩
  rw[hcs] at f2 f3 f4 f5
  obtain⟨k1,k2⟩:=x
  simp only[rtFx] at f1 f2
  obtain⟨L,hL⟩:∃L,l.map rtF=L:=⟨_,rfl⟩
  have hLl:L.length=l.length:=by rw[← hL];simp
  have hLi:L[i]? = some (rtF (k1,k2)):=by rw[← hL,List.getElem?_map,hx];rfl
  have hall:allCells 2 L:=by rw[← hL];simp
  simp only[rtFx] at hLi
  rw[hL] at f3 ⊢
  have hil:i≤L.length:=by omega
  by_cases h0:fstE [o,if t=true then 12 else 0]=0
  ·rw[h0] at hE
   have hE':eachE own same l=eachF own same (l.take (i+1)) (l.drop (i+1)):=hE
   simp (maxSteps:=mS) [-getElem?_pos,-Prod.exists,-Prod.forall,-qb,hc,hLi]
   refine qg [] _ (k:=?_)
   repeat (first|refine qd _ (hs:=by simp (maxSteps:=mS) [-getElem?_pos,hc,hLi,f1,f2,f3,f4,f5,hg1,hg2,hall,hil];exact rfl) (k:=?_)|refine qe _ (k:=?_))
   refine qc ?_
   simp (maxSteps:=mS) [-Prod.exists,-Prod.forall,h0,w1]
   exact⟨(i+1,S++[c]),⟨by simp;omega,hE',J++[c],by rw[hJ];simp⟩,by simp;omega,by simp⟩
  ·have hE':eachE own same l=fstE [o,if t=true then 12 else 0]:=by rw[hE];unfold orI;rw[if_neg h0]
   simp (maxSteps:=mS) [-getElem?_pos,-Prod.exists,-Prod.forall,-qb,hc,hLi]
   refine qg [] _ (k:=?_)
   repeat (first|refine qd _ (hs:=by simp (maxSteps:=mS) [-getElem?_pos,hc,hLi,f1,f2,f3,f4,f5,hg1,hg2,hall,hil];exact rfl) (k:=?_)|refine qe _ (k:=?_))
   refine qc ?_
   subst hJ
   simp (maxSteps:=mS) [h0,hE',results83]
 ·have hi':i=l.length:=by omega
  subst hi'
  have hE':eachE own same l=0:=by rw[hE,List.drop_length,eachF]
  subst hJ
  simp (maxSteps:=mS) [hE',results83]
end Go.Proofs.Tryz.Ai
end
section
namespace Go.Proofs.Tryz.Ai
open Go Go.AI Go.Proofs
def smallN (s:List UInt8):Prop:=s.all isD=true∧plainB s=true∧s.length≤3
def isIX (σ:List (List AV)) (r:AV×List (List AV)):Prop:=∃(v:Int) (b:Bool),r=(.tup [.int .i64 v,.bool b],σ)∧(b=true→v<0∨999<v)
@[simp] theorem isIX_f (σ:List (List AV)) (v:Int):isIX σ (.tup [.int .i64 v,.bool false],σ)↔True:=⟨fun _=>trivial,fun _=>⟨v,false,rfl,fun h=>by cases h⟩⟩
@[simp] theorem isIX_t (σ:List (List AV)) (v:Int):isIX σ (.tup [.int .i64 v,.bool true],σ)↔(v<0∨999<v):=⟨fun ⟨_,_,h,k⟩=>by injection h with h;injection h with h;injection h with h1 h2;injection h1 with _ h1;injection h2 with h2;injection h2 with h2;subst h1;exact k h2.symm,fun h=>⟨v,true,rfl,fun _=>h⟩⟩
@[simp] theorem exIX {σ σ':List (List AV)} {x:AV}:(∃a b,(x=a∧σ'=b)∧isIX σ (a,b))↔isIX σ (x,σ'):=⟨fun ⟨a,b,⟨h1,h2⟩,h⟩=>by rw[h1,h2];exact h,fun h=>⟨_,_,⟨rfl,rfl⟩,h⟩⟩
structure AtI (d:List UInt8) (m:Int) (i:Nat):Prop where
 le:i≤d.length
 low:-9223372036854775808≤m
 dig:∀j c,j<i→d[j]? = some c→48≤c.toNat∧c.toNat≤57
 z:m≤0
 a:1≤i→m≤-1
 b:2≤i→m≤-10
 c:3≤i→m≤-100
 d:4≤i→m≤-1000
theorem AtI.zero (d:List UInt8):AtI d 0 0:=⟨by omega,by omega,fun j c h=>by omega,by omega,by omega,by omega,by omega,by omega⟩
theorem AtI.next {d:List UInt8} {m:Int} {i x:Nat} (h:AtI d m i) {c:UInt8} (hx:d[i]? = some c) (h1:48≤c.toNat) (h2:c.toNat≤57) (hxx:c.toNat-48=x) (h0:i=0→0<x) (hlow:-9223372036854775808≤10*m-(x:Int)):AtI d (10*m-(x:Int)) (i+1):=by
 have hi:=(List.getElem?_eq_some_iff.1 hx).1
 have:=h.z;have ha:=h.a;have hb:=h.b;have hc:=h.c;have hd:=h.d
 refine⟨by omega,hlow,fun j c' hj hc'=>?_,by omega,fun _=>?_,fun _=>?_,fun _=>?_,fun _=>?_⟩
 ·by_cases e:j=i
  ·subst e;rw[hx] at hc';injection hc' with hc';subst hc';exact⟨h1,h2⟩
  ·exact h.dig j c' (by omega) hc'
 ·by_cases e:i=0
  ·have:=h0 e;omega
  ·have:=ha (by omega);omega
 ·have:=ha (by omega);omega
 ·have:=hb (by omega);omega
 ·have:=hc (by omega);omega
theorem AtI.all {d:List UInt8} {m:Int} (h:AtI d m d.length):d.all isD=true:=by
 rw[List.all_eq_true]
 intro c hc
 obtain⟨j,hj⟩:=List.mem_iff_getElem?.1 hc
 have:=h.dig j c (List.getElem?_eq_some_iff.1 hj).1 hj
 simpa[isD] using this
theorem qmr {x:Nat} (hx:x≤9) {z m:Int} (hz:(-9223372036854775808+(x:Int)).tdiv 10=z) (h:¬m<z):-9223372036854775808≤10*m-(x:Int):=by
 rw[show (-9223372036854775808+(x:Int))=-(9223372036854775808-(x:Int)) by omega,Int.neg_tdiv,Int.tdiv_eq_ediv_of_nonneg (by omega)] at hz
 omega
theorem qms {x:Nat} (hx:x≤9) {z:Int} (hz:(-9223372036854775808+(x:Int)).tdiv 10=z):-922337203685477581≤z∧z≤-922337203685477579:=by
 rw[show (-9223372036854775808+(x:Int))=-(9223372036854775808-(x:Int)) by omega,Int.neg_tdiv,Int.tdiv_eq_ediv_of_nonneg (by omega)] at hz
 omega
theorem qsn (s:List UInt8) (hs:s.length≤2^30) (hn:¬smallN s) (σ:List (List AV)):∃(v:Int) (b:Bool),ev 157 [.str s] σ=some (.tup [.int .i64 v,.bool b],σ)∧(b=true→v<0∨999<v):=by
 suffices hx:∃r:AV×List (List AV),ev 157 [.str s] σ=some r∧isIX σ r by
  obtain⟨r,h1,v,b,rfl,h2⟩:=hx
  exact⟨v,b,h1,h2⟩
 by_cases n1:1<s.length∧s[0]? = some 45
 ·obtain⟨n1a,n1b⟩:=n1
  obtain⟨d,hd⟩:∃d,s.drop 1=d:=⟨_,rfl⟩
  have hd2:s.tail=d:=by rw[← hd,List.drop_one]
  have hdl:d.length≤s.length:=by rw[← hd];simp
  have hd1:1≤d.length:=by rw[← hd];simp;omega
  have h1l:1≤s.length:=by omega
  refine qir rfl func157 rfl (by simp[ntmps157]) (by kernel_rfl) (by kernel_rfl) ?_
  have e1':d.isEmpty=false:=by cases d with|nil=>simp at hd1|cons a b=>rfl
  obtain⟨c1,hc1⟩:∃c,d[0]? = some c:=⟨_,List.getElem?_eq_getElem (by omega)⟩
  by_cases e2:19<d.length
  ·simp (maxSteps:=mS) [-getElem?_pos,n1a,n1b,h1l,hd,hd2,e1',e2,results157]
  ·by_cases e3:1<d.length∧c1=48
   ·have e3a:=e3.1
    have e3b:=e3.2
    subst e3b
    simp (maxSteps:=mS) [-getElem?_pos,n1a,n1b,h1l,hd,hd2,e1',e2,e3a,hc1,results157]
   ·by_cases e5:d=[48]
    ·subst e5
     simp (maxSteps:=mS) [n1a,n1b,h1l,hd,hd2,results157]
    ·have e5':(d==[48])=false:=by simpa using e5
     by_cases e3a:1<d.length
     ·have e3b:¬c1=48:=fun e=>e3 ⟨e3a,e⟩
      simp (maxSteps:=mS) [-getElem?_pos,n1a,n1b,h1l,hd,hd2,e1',e2,e3a,hc1,e3b,e5']
      refine qf (I:=fun p:Int×Nat=>⟨[(4,.bool true),(5,.str d),(6,.int .i64 p.1),(7,.int .i64 p.2)],[],σ⟩) (Pr:=fun p=>AtI d p.1 p.2) (μ:=fun p=>d.length-p.2) (a:=(0,0)) (by simp) (AtI.zero d) ?_
      rintro⟨m,i⟩ hI
      have hi:=hI.le
      have hm1:=hI.low
      have hm2:=hI.z
      simp only at hi hm1 hm2 hI ⊢
      by_cases hc:i<d.length
      ·obtain⟨c,hx⟩:=getS hc
       by_cases z1:c.toNat<48
       ·simp (maxSteps:=mS) [-getElem?_pos,hc,hx,z1,results157]
       ·by_cases z2:57<c.toNat
        ·simp (maxSteps:=mS) [-getElem?_pos,hc,hx,z1,z2,results157]
        ·have w1:IntKind.u8.wrap ((c.toNat:Int)-48)=((c.toNat-48:Nat):Int):=by rw[qnd (by omega)];omega
         obtain⟨x,hxx⟩:∃x,c.toNat-48=x:=⟨_,rfl⟩
         rw[hxx] at w1
         have hx9:x≤9:=by omega
         have hx0:i=0→0<x:=fun e=>by subst e;rw[hc1] at hx;injection hx with hx;subst hx;have:c1.toNat≠48:=fun h=>e3b (UInt8.toNat_inj.1 (by simpa using h));omega
         have w4:IntKind.i64.wrap (x:Int)=x:=qh (by omega)
         have w5:IntKind.i64.wrap (-9223372036854775808+(x:Int))=-9223372036854775808+(x:Int):=qh (by omega)
         have w6:=wr1 i (by omega)
         obtain⟨z,hz⟩:∃z,(-9223372036854775808+(x:Int)).tdiv 10=z:=⟨_,rfl⟩
         have hzr:=qms hx9 hz
         have wz:IntKind.i64.wrap z=z:=qh (by omega)
         by_cases z3:m<z
         ·simp (maxSteps:=mS) [-getElem?_pos,hc,hx,z1,z2,w1,w4,w5,hz,wz,z3,results157]
         ·have hlo:=qmr hx9 hz z3
          have w7:IntKind.i64.wrap (10*m)=10*m:=qh (by omega)
          have w8:IntKind.i64.wrap (10*m-(x:Int))=10*m-(x:Int):=qh (by omega)
          have hnx:=hI.next hx (by omega) (by omega) hxx hx0 hlo
          simp (maxSteps:=mS) [-getElem?_pos,-Prod.exists,hc,hx,z1,z2,w1,w4,w5,hz,wz,z3,w7,w8,w6]
          exact⟨(10*m-(x:Int),i+1),hnx,by simp;omega,by simp⟩
      ·have hie:i=d.length:=by omega
       subst hie
       have ha:=hI.a
       have hneg:m<0:=by have:=ha (by omega);omega
       simp (maxSteps:=mS) [hc,hneg,results157]
     ·have e3c:∀c,d[0]? = some c→¬c=48:=fun c h e=>e5 (by
       have:d.length=1:=by omega
       match d,this,h with
       | [y],_,h=>simp at h;rw[h,e])
      simp (maxSteps:=mS) [-getElem?_pos,n1a,n1b,h1l,hd,hd2,e1',e2,e3a,e5']
      refine qf (I:=fun p:Int×Nat=>⟨[(4,.bool true),(5,.str d),(6,.int .i64 p.1),(7,.int .i64 p.2)],[],σ⟩) (Pr:=fun p=>AtI d p.1 p.2) (μ:=fun p=>d.length-p.2) (a:=(0,0)) (by simp) (AtI.zero d) ?_
      rintro⟨m,i⟩ hI
      have hi:=hI.le
      have hm1:=hI.low
      have hm2:=hI.z
      simp only at hi hm1 hm2 hI ⊢
      by_cases hc:i<d.length
      ·obtain⟨c,hx⟩:=getS hc
       by_cases z1:c.toNat<48
       ·simp (maxSteps:=mS) [-getElem?_pos,hc,hx,z1,results157]
       ·by_cases z2:57<c.toNat
        ·simp (maxSteps:=mS) [-getElem?_pos,hc,hx,z1,z2,results157]
        ·have w1:IntKind.u8.wrap ((c.toNat:Int)-48)=((c.toNat-48:Nat):Int):=by rw[qnd (by omega)];omega
         obtain⟨x,hxx⟩:∃x,c.toNat-48=x:=⟨_,rfl⟩
         rw[hxx] at w1
         have hx9:x≤9:=by omega
         have hx0:i=0→0<x:=fun e=>by subst e;have:c.toNat≠48:=fun h=>e3c c hx (UInt8.toNat_inj.1 (by simpa using h));omega
         have w4:IntKind.i64.wrap (x:Int)=x:=qh (by omega)
         have w5:IntKind.i64.wrap (-9223372036854775808+(x:Int))=-9223372036854775808+(x:Int):=qh (by omega)
         have w6:=wr1 i (by omega)
         obtain⟨z,hz⟩:∃z,(-9223372036854775808+(x:Int)).tdiv 10=z:=⟨_,rfl⟩
         have hzr:=qms hx9 hz
         have wz:IntKind.i64.wrap z=z:=qh (by omega)
         by_cases z3:m<z
         ·simp (maxSteps:=mS) [-getElem?_pos,hc,hx,z1,z2,w1,w4,w5,hz,wz,z3,results157]
         ·have hlo:=qmr hx9 hz z3
          have w7:IntKind.i64.wrap (10*m)=10*m:=qh (by omega)
          have w8:IntKind.i64.wrap (10*m-(x:Int))=10*m-(x:Int):=qh (by omega)
          have hnx:=hI.next hx (by omega) (by omega) hxx hx0 hlo
          simp (maxSteps:=mS) [-getElem?_pos,-Prod.exists,hc,hx,z1,z2,w1,w4,w5,hz,wz,z3,w7,w8,w6]
          exact⟨(10*m-(x:Int),i+1),hnx,by simp;omega,by simp⟩
      ·have hie:i=d.length:=by omega
       subst hie
       have ha:=hI.a
       have hneg:m<0:=by have:=ha (by omega);omega
       simp (maxSteps:=mS) [hc,hneg,results157]
 ·refine qir rfl func157 rfl (by simp[ntmps157]) (by kernel_rfl) (by kernel_rfl) ?_
  by_cases n1a:1<s.length
  ·obtain⟨c0,hc0⟩:∃c,s[0]? = some c:=⟨_,List.getElem?_eq_getElem (by omega)⟩
   have n1b:¬c0=45:=by rintro rfl;exact n1 ⟨n1a,hc0⟩
   have e1':s.isEmpty=false:=by cases s with|nil=>simp at n1a|cons a b=>rfl
   by_cases e2:19<s.length
   ·simp (maxSteps:=mS) [-getElem?_pos,n1a,hc0,n1b,e1',e2,results157]
   ·by_cases e3b:c0=48
    ·subst e3b
     simp (maxSteps:=mS) [-getElem?_pos,n1a,hc0,n1b,e1',e2,results157]
    ·simp (maxSteps:=mS) [-getElem?_pos,n1a,hc0,n1b,e1',e2,e3b]
     refine qf (I:=fun p:Int×Nat=>⟨[(4,.bool false),(5,.str s),(6,.int .i64 p.1),(7,.int .i64 p.2)],[],σ⟩) (Pr:=fun p=>AtI s p.1 p.2) (μ:=fun p=>s.length-p.2) (a:=(0,0)) (by simp) (AtI.zero s) ?_
     rintro⟨m,i⟩ hI
     have hi:=hI.le
     have hm1:=hI.low
     have hm2:=hI.z
     simp only at hi hm1 hm2 hI ⊢
     by_cases hc:i<s.length
     ·obtain⟨c,hx⟩:=getS hc
      by_cases z1:c.toNat<48
      ·simp (maxSteps:=mS) [-getElem?_pos,hc,hx,z1,results157]
      ·by_cases z2:57<c.toNat
       ·simp (maxSteps:=mS) [-getElem?_pos,hc,hx,z1,z2,results157]
       ·have w1:IntKind.u8.wrap ((c.toNat:Int)-48)=((c.toNat-48:Nat):Int):=by rw[qnd (by omega)];omega
        obtain⟨x,hxx⟩:∃x,c.toNat-48=x:=⟨_,rfl⟩
        rw[hxx] at w1
        have hx9:x≤9:=by omega
        have hx0:i=0→0<x:=fun e=>by subst e;rw[hc0] at hx;injection hx with hx;subst hx;have:c0.toNat≠48:=fun h=>e3b (UInt8.toNat_inj.1 (by simpa using h));omega
        have w4:IntKind.i64.wrap (x:Int)=x:=qh (by omega)
        have w5:IntKind.i64.wrap (-9223372036854775808+(x:Int))=-9223372036854775808+(x:Int):=qh (by omega)
        have w6:=wr1 i (by omega)
        obtain⟨z,hz⟩:∃z,(-9223372036854775808+(x:Int)).tdiv 10=z:=⟨_,rfl⟩
        have hzr:=qms hx9 hz
        have wz:IntKind.i64.wrap z=z:=qh (by omega)
        by_cases z3:m<z
        ·simp (maxSteps:=mS) [-getElem?_pos,hc,hx,z1,z2,w1,w4,w5,hz,wz,z3,results157]
        ·have hlo:=qmr hx9 hz z3
         have w7:IntKind.i64.wrap (10*m)=10*m:=qh (by omega)
         have w8:IntKind.i64.wrap (10*m-(x:Int))=10*m-(x:Int):=qh (by omega)
         have hnx:=hI.next hx (by omega) (by omega) hxx hx0 hlo
         simp (maxSteps:=mS) [-getElem?_pos,-Prod.exists,hc,hx,z1,z2,w1,w4,w5,hz,wz,z3,w7,w8,w6]
         exact⟨(10*m-(x:Int),i+1),hnx,by simp;omega,by simp⟩
     ·have hie:i=s.length:=by omega
      subst hie
      have ha:=hI.a
      have hall:=hI.all
      have hpl:plainB s=true:=by cases s with|nil=>simp at n1a|cons y r=>simp at hc0;subst hc0;simp[plainB,e3b]
      have h4:4≤s.length:=by
       rcases Nat.lt_or_ge s.length 4 with h|h
       ·exact absurd ⟨hall,hpl,by omega⟩ hn
       ·exact h
      have hbig:=hI.d h4
      by_cases q1:m=-9223372036854775808
      ·simp (maxSteps:=mS) [hc,q1,results157]
      ·have w9:IntKind.i64.wrap (0-m)=-m:=by rw[qh (by omega)];omega
       have w9b:IntKind.i64.wrap (-m)=-m:=qh (by omega)
       have h9:999 < -m:=by omega
       simp (maxSteps:=mS) [hc,q1,w9,w9b,h9,results157]
  ·by_cases e1:s=[]
   ·have e1':s.isEmpty=true:=by rw[e1];rfl
    simp (maxSteps:=mS) [-getElem?_pos,n1a,e1',results157]
   ·have e1':s.isEmpty=false:=by cases s with|nil=>exact absurd rfl e1|cons a b=>rfl
    have hl1:s.length=1:=by have:=List.length_pos_iff.2 e1;omega
    have e2:¬19<s.length:=by omega
    simp (maxSteps:=mS) [-getElem?_pos,n1a,e1',e2]
    refine qf (I:=fun p:Int×Nat=>⟨[(4,.bool false),(5,.str s),(6,.int .i64 p.1),(7,.int .i64 p.2)],[],σ⟩) (Pr:=fun p=>p=(0,0)) (μ:=fun p=>s.length-p.2) (a:=(0,0)) (by simp) rfl ?_
    rintro⟨m,i⟩ hI
    injection hI with h1 h2
    subst h1;subst h2
    have hc:0<s.length:=by omega
    obtain⟨c,hx⟩:=getS hc
    by_cases z1:c.toNat<48
    ·simp (maxSteps:=mS) [-getElem?_pos,hc,hx,z1,results157]
    ·by_cases z2:57<c.toNat
     ·simp (maxSteps:=mS) [-getElem?_pos,hc,hx,z1,z2,results157]
     ·exfalso
      refine hn ?_
      match s,hl1,hx with
      | [y],_,h =>
       simp at h
       subst h
       refine⟨?_,?_,by simp⟩
       ·simp[isD];omega
       ·simp[plainB]
def minorD (s:List UInt8):Int:=match minorB s with
 | some k=>k
 | none=>-1
theorem qo8 {t:List UInt8} (h:smallN t) (h0:t≠[]):numB t=some (valB t)∧valB t≤999:=by
 obtain⟨h1,h2,h3⟩:=h
 have hp:allB isD t=true:=by unfold allB;rw[h1];cases t with|nil=>exact absurd rfl h0|cons a r=>rfl
 refine⟨by unfold numB numOk;rw[hp,h2,decide_eq_true (by omega)];rfl,?_⟩
 have hv:=qgn _ h1
 have:(10:Nat)^t.length≤10^3:=Nat.pow_le_pow_right (by omega) h3
 omega
theorem qo9 {t:List UInt8} (hn:¬smallN t):(numB t).bind (fun k=>if k≤999 then some k else none)=none:=by
 unfold numB
 split
 ·rename_i h
  simp only[Option.bind_some]
  split
  ·rename_i hk
   exfalso
   simp only[numOk,allB,Bool.and_eq_true,Bool.not_eq_true',List.isEmpty_eq_false_iff,decide_eq_true_eq] at h
   obtain⟨⟨⟨h1,h2⟩,h3⟩,h4⟩:=h
   refine hn ⟨h1,h3,?_⟩
   rcases Nat.lt_or_ge t.length 4 with h|h
   ·omega
   ·exfalso
    match t,h,h3,h1 with
    | a::b::c::d::r,_,h3,h1 =>
     have ha:a≠48:=by simpa[plainB] using h3
     have hd:∀x∈(a::b::c::d::r),isD x=true:=List.all_eq_true.1 h1
     have h5:=hd a (by simp)
     simp only[isD,decide_eq_true_eq] at h5
     have h6:a.toNat≠48:=fun h=>ha (UInt8.toNat_inj.1 (by simpa using h))
     have hmono:∀(l:List UInt8) (n:Nat),n≤l.foldl (fun n c=>n*10+(c.toNat-48)) n:=by
      intro l
      induction l with
      | nil=>intro n;simp
      | cons x r ih=>intro n;simp only[List.foldl_cons];have:=ih (n*10+(x.toNat-48));omega
     have:=hmono r ((((0*10+(a.toNat-48))*10+(b.toNat-48))*10+(c.toNat-48))*10+(d.toNat-48))
     unfold valB at hk
     simp only[List.foldl_cons] at hk
     omega
  ·rfl
 ·rfl
theorem qk6 (s:List UInt8) (hs:s.length≤2^29) (σ:List (List AV)):ev 87 [.str s] σ=some (.int .i64 (minorD s),σ):=by
 by_cases h3:s.length<3
 ·have hm:minorD s=-1:=by
   have:minorB s=none:=by
    unfold minorB
    split
    ·rename_i hp
     match s,h3,hp with
     | [a,b],_,_=>rfl
     | [a],_,hp=>simp at hp
     | [],_,hp=>simp at hp
    ·rfl
   unfold minorD;rw[this]
  refine qk func87 ntmps87 ?_
  simp (maxSteps:=mS) [h3,hm,results87]
 ·have k2:2≤s.length:=by omega
  by_cases hp:s.take 2=[49,46]
  ·have hp':(s.take 2==[49,46])=true:=by simpa using hp
   have hpre:[49,46].isPrefixOf s=true:=by
    rw[List.isPrefixOf_iff_prefix,List.prefix_iff_eq_take]
    simpa using hp.symm
   obtain⟨t,ht⟩:∃t,s.drop 2=t:=⟨_,rfl⟩
   have htl:t.length≤2^29:=by rw[← ht];simp;omega
   have ht0:t≠[]:=fun h=>by have:=congrArg List.length ht;rw[h] at this;simp at this;omega
   have hmB:minorB s=(numB t).bind fun k=>if k≤999 then some k else none:=by unfold minorB;rw[if_pos hpre,ht]
   by_cases hn:smallN t
   ·obtain⟨h1,h2⟩:=qo8 hn ht0
    have hA:=qem t hn.1 hn.2.1 (by have:=hn.2.2;omega)
    have hm:minorD s=valB t:=by unfold minorD;rw[hmB,h1,Option.bind_some,if_pos h2]
    obtain⟨v,hv⟩:∃v,valB t=v:=⟨_,rfl⟩
    rw[hv] at hA hm h2
    have h2':¬999<v:=by omega
    refine qk func87 ntmps87 ?_
    simp (maxSteps:=mS) [h3,k2,hp',ht,hA,h2',hm,results87]
   ·have hm:minorD s=-1:=by unfold minorD;rw[hmB,qo9 hn]
    obtain⟨v,b,hA,hb⟩:=qsn t (by omega) hn σ
    refine qk func87 ntmps87 ?_
    cases b with
    | false=>simp (maxSteps:=mS) [h3,k2,hp',ht,hA,hm,results87]
    | true =>
     rcases hb rfl with h|h
     ·simp (maxSteps:=mS) [h3,k2,hp',ht,hA,h,hm,results87]
     ·have h':¬v<0:=by omega
      simp (maxSteps:=mS) [h3,k2,hp',ht,hA,h,h',hm,results87]
  ·have hp':(s.take 2==[49,46])=false:=by simpa using hp
   have hm:minorD s=-1:=by
    have:minorB s=none:=by
     unfold minorB
     rw[if_neg]
     rw[List.isPrefixOf_iff_prefix,List.prefix_iff_eq_take]
     simpa using fun h=>hp h.symm
    unfold minorD;rw[this]
   refine qk func87 ntmps87 ?_
   simp (maxSteps:=mS) [h3,k2,hp',hm,results87]
end Go.Proofs.Tryz.Ai
end
