/- Part 20 of a proof: Go functions are evaluated on abstract values; no conditions beyond those of each theorem. -/
import Derived.Test.YtjkkcelnfokplaaGreatDoorBi19
set_option linter.all false
set_option maxHeartbeats 16000000
set_option maxRecDepth 4000
section
namespace Go.Proofs.Tryz.Ai
open Go Go.AI Go.Proofs
def minorB (s:List UInt8):Option Nat:=if [49,46].isPrefixOf s then (numB (s.drop 2)).bind fun k=>if k≤999 then some k else none else none
def minorN (s:List UInt8):List UInt8:=if [49,46].isPrefixOf s then s.drop 2 else s
def minorV (s:List UInt8):Int:=match Lib.atoiAll (minorN s) with
 | .ok v=>v
 | .range=>Lib.atoiSat (minorN s)
 | _=>0
theorem qnu {s:List UInt8} {v:Int} (h:Lib.atoiAll (s.drop 2)=.ok v):minorB s=if [49,46].isPrefixOf s then (if 0≤v∧v≤999∧Lib.decDigits v.toNat=s.drop 2 then some v.toNat else none) else none:=by
 unfold minorB
 split
 ·split
  ·rename_i h2
   rw[← h2.2.2,qtx,if_pos (by omega)]
   simp only[Option.bind_some]
   rw[if_pos (by omega)]
  ·rename_i h2
   cases hn:numB (s.drop 2) with
   | none=>rfl
   | some k =>
    simp only[Option.bind_some]
    rw[if_neg]
    intro hk
    unfold numB at hn
    split at hn
    ·rename_i ho
     simp only[numOk,allB,Bool.and_eq_true,Bool.not_eq_true',List.isEmpty_eq_false_iff,decide_eq_true_eq] at ho
     injection hn with hn
     have hd:=qhl (s.drop 2) ho.1.1.1 ho.1.2
     have ha:=qf2 (s.drop 2) ho.1.1.1 ho.1.1.2 (by omega)
     rw[h] at ha
     injection ha with ha
     apply h2
     subst ha
     refine⟨by omega,by omega,?_⟩
     rw[show (((valB (s.drop 2):Nat):Int)).toNat=valB (s.drop 2) by simp];exact hd
    ·cases hn
 ·rfl
theorem qnv {s:List UInt8} (h:∀v,Lib.atoiAll (s.drop 2)≠.ok v):minorB s=none:=by
 unfold minorB
 split
 ·cases hn:numB (s.drop 2) with
  | none=>rfl
  | some k =>
   exfalso
   unfold numB at hn
   split at hn
   ·rename_i ho
    simp only[numOk,allB,Bool.and_eq_true,Bool.not_eq_true',List.isEmpty_eq_false_iff,decide_eq_true_eq] at ho
    exact h _ (qf2 (s.drop 2) ho.1.1.1 ho.1.1.2 (by omega))
   ·cases hn
 ·rfl
theorem quj (s:List UInt8) (hs:s.length≤2^29) (σ):ev 72 [.str s] σ=some (.tup [.int .i64 (minorV s),.bool (minorB s).isSome],σ):=by
 have hc:=qeu s [49,46] (by omega) (by simp)
 have hat:=fun σ=>qp8 [.str (minorN s)] σ
 have hlen:(minorN s).length≤s.length:=by unfold minorN;split<;>simp
 have hmV:minorV s=match Lib.atoiAll (minorN s) with
  | .ok v=>v
  | .range=>Lib.atoiSat (minorN s)
  | _=>0:=rfl
 have hnn:(if [49,46].isPrefixOf s=true then s.drop 2 else s)=minorN s:=rfl
 simp only[List.length_cons,List.length_nil,Nat.zero_add,Nat.reduceAdd,hnn] at hc
 simp only[atoiT] at hat
 have hat':=fun σ=>(hat σ).trans (qo (by omega))
 clear hat
 cases hp:[49,46].isPrefixOf s with
 | false =>
  have hB:minorB s=none:=by unfold minorB;rw[hp];rfl
  rw[hp] at hc
  rw[hB]
  rcases hq:Lib.atoiAll (minorN s) with v|_|_<;>rw[hq] at hmV<;>simp only[hq] at hat'<;>simp only at hmV
  all_goals
   refine qh func72 ntmps72 ?_
   simp (maxSteps:=mS) [hc,hat',hmV,results72]
 | true =>
  have hN:minorN s=s.drop 2:=by unfold minorN;rw[hp];rfl
  rw[hp] at hc
  have hC:(minorN s).length≤s.length:=hlen
  rcases hq:Lib.atoiAll (minorN s) with v|_|_<;>rw[hq] at hmV<;>simp only[hq] at hat'<;>simp only at hmV
  ·rw[hN] at hq
   have hB:=qnu hq
   rw[hp,if_pos rfl,← hN] at hB
   by_cases h0:0≤v
   ·by_cases h9:v≤999
    ·obtain⟨k,rfl⟩:∃k:Nat,v=(k:Int):=⟨v.toNat,by omega⟩
     have hI:=qx5 k (by omega)
     have hk0:(0:Int)≤(k:Int):=by omega
     have hk9:k≤999:=by omega
     have hkt:((k:Int)).toNat=k:=by simp
     rw[hkt] at hB
     by_cases hd:Lib.decDigits k=minorN s
     ·rw[if_pos ⟨h0,h9,hd⟩] at hB
      have hd':(Lib.decDigits k==minorN s)=true:=by simpa using hd
      refine qh func72 ntmps72 ?_
      simp (maxSteps:=mS) [hc,hat',hmV,hI,hk9,hd',hB,results72]
     ·rw[if_neg (fun h=>hd h.2.2)] at hB
      have hd':(Lib.decDigits k==minorN s)=false:=by simpa using hd
      refine qh func72 ntmps72 ?_
      simp (maxSteps:=mS) [hc,hat',hmV,hI,hk9,hd',hB,results72]
    ·rw[if_neg (fun h=>h9 h.2.1)] at hB
     refine qh func72 ntmps72 ?_
     simp (maxSteps:=mS) [hc,hat',hmV,h0,h9,hB,results72]
   ·rw[if_neg (fun h=>h0 h.1)] at hB
    refine qh func72 ntmps72 ?_
    simp (maxSteps:=mS) [hc,hat',hmV,h0,hB,results72]
  all_goals
   have hB:minorB s=none:=qnv fun v hv=>by rw[← hN,hq] at hv;cases hv
   refine qh func72 ntmps72 ?_
   simp (maxSteps:=mS) [hc,hat',hmV,hB,results72]
def rpE (x:Rp):Int:=fstE [fstE [(pathB x.1.1:Int),if x.1.2=[] then 0 else (checkB x.1.1 x.1.2:Int)],(checkB x.2.1 x.2.2:Int)]
def qek (m:List UInt8×List UInt8):Prop:=m.1.length≤2^29∧m.2.length≤2^29
theorem qgc (x:Rp) (h1:qek x.1) (h2:qek x.2) (σ):ev 81 [rpF x] σ=some (.int .i64 (rpE x),σ):=by
 obtain⟨⟨x1,x2⟩,x3,x4⟩:=x
 obtain⟨a1,a2⟩:=h1
 obtain⟨a3,a4⟩:=h2
 simp only at a1 a2 a3 a4
 have hP:=qbw x1 (by omega)
 have hC1:=qde x1 x2 (by omega) (by omega)
 have hC2:=qde x3 x4 (by omega) (by omega)
 have h7:=fun a b=>qav [a,b] (by simp)
 have hA:rpE ((x1,x2),x3,x4)=fstE [fstE [(pathB x1:Int),if x2=[] then 0 else (checkB x1 x2:Int)],(checkB x3 x4:Int)]:=rfl
 have hz:∀a b,fstE [fstE [a,0],b]=fstE [a,b]:=fun a b=>by simp[fstE,orI];split<;>simp_all
 simp only[rpFx]
 obtain⟨p,hp⟩:∃p:Int,(pathB x1:Int)=p:=⟨_,rfl⟩
 obtain⟨c1,hc1⟩:∃p:Int,(checkB x1 x2:Int)=p:=⟨_,rfl⟩
 obtain⟨c2,hc2⟩:∃p:Int,(checkB x3 x4:Int)=p:=⟨_,rfl⟩
 rw[hp] at hP
 rw[hc1] at hC1
 rw[hc2] at hC2
 rw[hp,hc1,hc2] at hA
 simp only[List.map_cons,List.map_nil] at h7
 refine qh func81 ntmps81 ?_
 by_cases hx:x2=[]
 ·subst hx
  rw[if_pos rfl,hz] at hA
  simp (maxSteps:=mS) [hP,hC1,hC2,h7,hA,results81]
 ·rw[if_neg hx] at hA
  have hx':(x2==[])=false:=by simpa using hx
  simp (maxSteps:=mS) [hP,hC1,hC2,h7,hx,hx',hA,results81]
def rtE (x:Rt):Int:=fstE [if (readB x.1).isSome&&(readB x.2).isSome then 0 else 8,if cmpB x.1 x.2>0 then 6 else 0]
theorem qgd (x:Rt) (h:qek x) (σ):ev 84 [rtF x] σ=some (.int .i64 (rtE x),σ):=by
 obtain⟨x1,x2⟩:=x
 obtain⟨a1,a2⟩:=h
 simp only at a1 a2
 have hV1:=qir x1 (by omega)
 have hV2:=qir x2 (by omega)
 have hC:=qgb x1 x2 (by omega) (by omega)
 have hW:=fun b e=>qaw b e
 have h7:=fun a b=>qav [a,b] (by simp)
 have hA:rtE (x1,x2)=fstE [if (readB x1).isSome&&(readB x2).isSome then 0 else 8,if cmpB x1 x2>0 then 6 else 0]:=rfl
 rw[hA]
 obtain⟨v1,hv1⟩:∃b,(readB x1).isSome=b:=⟨_,rfl⟩
 obtain⟨v2,hv2⟩:∃b,(readB x2).isSome=b:=⟨_,rfl⟩
 obtain⟨c,hc⟩:∃c,cmpB x1 x2=c:=⟨_,rfl⟩
 rw[hv1] at hV1
 rw[hv2] at hV2
 rw[hc] at hC
 rw[hv1,hv2,hc]
 simp only[rtFx]
 simp only[List.map_cons,List.map_nil] at h7
 refine qh func84 ntmps84 ?_
 cases v1<;>cases v2<;>by_cases hc0:c>0
 all_goals
  simp (maxSteps:=mS) [-qb]
  refine qk [] _ (k:=?_)
  repeat (first|refine qd _ (hs:=by simp (maxSteps:=mS) [hV1,hV2,hC,hW,h7,hc0];exact rfl) (k:=?_)|refine qe _ (k:=?_))
  refine qc ?_
  simp (maxSteps:=mS) [hc0,results84]
end Go.Proofs.Tryz.Ai
end
section
namespace Go.Proofs.Tryz.Ai
open Go Go.AI Go.Proofs
def eachF {α:Type} (own:α→Int) (same:α→α→Bool):List α→List α→Int
 | _,[]=>0
 | a,x::r=>orI (fstE [own x,if a.any (same x) then 12 else 0]) (eachF own same (a++[x]) r)
def eachE {α:Type} (own:α→Int) (same:α→α→Bool) (l:List α):Int:=eachF own same [] l
theorem qel {α:Type} {own:α→Int} {same:α→α→Bool} {l:List α} {i:Nat} {x:α} (hx:l[i]? = some x):eachF own same (l.take i) (l.drop i)=orI (fstE [own x,if (l.take i).any (same x) then 12 else 0]) (eachF own same (l.take (i+1)) (l.drop (i+1))):=by
 obtain⟨hi,he⟩:=List.getElem?_eq_some_iff.1 hx
 rw[List.drop_eq_getElem_cons hi,he,eachF,List.take_add_one,hx];rfl
theorem quk (l:List (List UInt8×List UInt8)) (hl:l.length≤2^29) (g1 g2 g3:FuncId) (hg1:g1<100000) (hg2:g2<100000) (hg3:g3<100000) (own:List UInt8×List UInt8→Int) (same:List UInt8×List UInt8→List UInt8×List UInt8→Bool) (cs:List UInt8×List UInt8→List AV) (sh:Option (TypeId×Nat))
  (hown:∀x∈l,∀σ,ev g1 [modA x] σ=some (.int .i64 (own x),σ)) (hsame:∀x∈l,∀σ:List (List AV),ev g2 [modA x] σ=some (.fn g3 [.gp σ.length 0 sh],σ++[cs x]))
  (hq:∀x∈l,∀y,∀(σ:List (List AV)) b,σ[b]? = some (cs x)→ev g3 [modA y,.gp b 0 sh] σ=some (.bool (same x y),σ)) (σ:List (List AV)) :
  ev 78 [.sl .sh (l.map modA),.fn g1 [],.fn g2 []] σ=some (.int .i64 (eachE own same l),σ):=by
 have h7:=fun a b=>qav [a,b] (by simp)
 simp only[List.map_cons,List.map_nil] at h7
 refine qh func78 ntmps78 ?_
 simp (maxSteps:=mS) []
 refine qj (I:=fun p:Nat×List (List AV)=>⟨[(0,.sl .sh (l.map modA)),(1,.fn g1 []),(2,.fn g2 []),(10,.sl .sh (l.map modA)),(11,.int .i64 l.length),(12,.int .i64 p.1)],[],p.2⟩) (Pr:=fun p=>p.1≤l.length∧eachE own same l=eachF own same (l.take p.1) (l.drop p.1)∧∃J,p.2=σ++J) (μ:=fun p=>l.length-p.1) (a:=(0,σ)) (by simp) ⟨by simp,rfl,[],by simp⟩ ?_
 rintro⟨i,S⟩ ⟨hi,hE,J,hJ⟩
 simp only at hi hE hJ ⊢
 have w1:=wr1 i (by omega)
 by_cases hc:i<l.length
 ·obtain⟨x,hx⟩:=getS hc
  have hxm:=List.mem_of_getElem? hx
  have hst:=qel (own:=own) (same:=same) hx
  have f1:=hown x hxm S
  have f2:=hsame x hxm S
  have f3:=qey (l.take i) (by simp;omega) g3 hg3 [.gp S.length 0 sh] (by simp[args,arg,dem]) (same x) (S++[cs x]) (fun y _=>hq x hxm y _ _ (by simp))
  have f4:=fun b e=>qaw b e (S++[cs x])
  have f5:=fun a b=>h7 a b (S++[cs x])
  rw[hst] at hE
  rw[List.map_take] at f3
  obtain⟨o,ho⟩:∃o,own x=o:=⟨_,rfl⟩
  obtain⟨t,ht⟩:∃t,(l.take i).any (same x)=t:=⟨_,rfl⟩
  rw[ho] at f1 hE
  rw[ht] at f3 hE
  obtain⟨c,hcs⟩:∃c,cs x=c:=⟨_,rfl⟩
  rw[hcs] at f2 f3 f4 f5
  obtain⟨k1,k2⟩:=x
  simp only[modAx] at f1 f2
  obtain⟨L,hL⟩:∃L,l.map modA=L:=⟨_,rfl⟩
  have hLl:L.length=l.length:=by rw[← hL];simp
  have hLi:L[i]? = some (modA (k1,k2)):=by rw[← hL,List.getElem?_map,hx];rfl
  have hall:allCells 2 L:=by rw[← hL];simp
  simp only[modAx] at hLi
  rw[hL] at f3 ⊢
  have hil:i≤L.length:=by omega
  by_cases h0:fstE [o,if t=true then 12 else 0]=0
  ·rw[h0] at hE
   have hE':eachE own same l=eachF own same (l.take (i+1)) (l.drop (i+1)):=hE
   simp (maxSteps:=mS) [-getElem?_pos,-Prod.exists,-Prod.forall,-qb,hc,hLi]
   refine qk [] _ (k:=?_)
   repeat (first|refine qd _ (hs:=by simp (maxSteps:=mS) [-getElem?_pos,hc,hLi,f1,f2,f3,f4,f5,hg1,hg2,hall,hil];exact rfl) (k:=?_)|refine qe _ (k:=?_))
   refine qc ?_
   simp (maxSteps:=mS) [-Prod.exists,-Prod.forall,h0,w1]
   exact⟨(i+1,S++[c]),⟨by simp;omega,hE',J++[c],by rw[hJ];simp⟩,by simp;omega,by simp⟩
  ·have hE':eachE own same l=fstE [o,if t=true then 12 else 0]:=by rw[hE];unfold orI;rw[if_neg h0]
   simp (maxSteps:=mS) [-getElem?_pos,-Prod.exists,-Prod.forall,-qb,hc,hLi]
   refine qk [] _ (k:=?_)
   repeat (first|refine qd _ (hs:=by simp (maxSteps:=mS) [-getElem?_pos,hc,hLi,f1,f2,f3,f4,f5,hg1,hg2,hall,hil];exact rfl) (k:=?_)|refine qe _ (k:=?_))
   refine qc ?_
   subst hJ
   simp (maxSteps:=mS) [h0,hE',results78]
 ·have hi':i=l.length:=by omega
  subst hi'
  have hE':eachE own same l=0:=by rw[hE,List.drop_length,eachF]
  subst hJ
  simp (maxSteps:=mS) [hE',results78]
theorem qul (l:List (Rp)) (hl:l.length≤2^29) (g1 g2 g3:FuncId) (hg1:g1<100000) (hg2:g2<100000) (hg3:g3<100000) (own:Rp→Int) (same:Rp→Rp→Bool) (cs:Rp→List AV) (sh:Option (TypeId×Nat))
  (hown:∀x∈l,∀σ,ev g1 [rpF x] σ=some (.int .i64 (own x),σ)) (hsame:∀x∈l,∀σ:List (List AV),ev g2 [rpF x] σ=some (.fn g3 [.gp σ.length 0 sh],σ++[cs x]))
  (hq:∀x∈l,∀y,∀(σ:List (List AV)) b,σ[b]? = some (cs x)→ev g3 [rpF y,.gp b 0 sh] σ=some (.bool (same x y),σ)) (σ:List (List AV)) :
  ev 80 [.sl .sh (l.map rpF),.fn g1 [],.fn g2 []] σ=some (.int .i64 (eachE own same l),σ):=by
 have h7:=fun a b=>qav [a,b] (by simp)
 simp only[List.map_cons,List.map_nil] at h7
 refine qh func80 ntmps80 ?_
 simp (maxSteps:=mS) []
 refine qj (I:=fun p:Nat×List (List AV)=>⟨[(0,.sl .sh (l.map rpF)),(1,.fn g1 []),(2,.fn g2 []),(10,.sl .sh (l.map rpF)),(11,.int .i64 l.length),(12,.int .i64 p.1)],[],p.2⟩) (Pr:=fun p=>p.1≤l.length∧eachE own same l=eachF own same (l.take p.1) (l.drop p.1)∧∃J,p.2=σ++J) (μ:=fun p=>l.length-p.1) (a:=(0,σ)) (by simp) ⟨by simp,rfl,[],by simp⟩ ?_
 rintro⟨i,S⟩ ⟨hi,hE,J,hJ⟩
 simp only at hi hE hJ ⊢
 have w1:=wr1 i (by omega)
 by_cases hc:i<l.length
 ·obtain⟨x,hx⟩:=getS hc
  have hxm:=List.mem_of_getElem? hx
  have hst:=qel (own:=own) (same:=same) hx
  have f1:=hown x hxm S
  have f2:=hsame x hxm S
  have f3:=qez (l.take i) (by simp;omega) g3 hg3 [.gp S.length 0 sh] (by simp[args,arg,dem]) (same x) (S++[cs x]) (fun y _=>hq x hxm y _ _ (by simp))
  have f4:=fun b e=>qaw b e (S++[cs x])
  have f5:=fun a b=>h7 a b (S++[cs x])
  rw[hst] at hE
  rw[List.map_take] at f3
  obtain⟨o,ho⟩:∃o,own x=o:=⟨_,rfl⟩
  obtain⟨t,ht⟩:∃t,(l.take i).any (same x)=t:=⟨_,rfl⟩
  rw[ho] at f1 hE
  rw[ht] at f3 hE
  obtain⟨c,hcs⟩:∃c,cs x=c:=⟨_,rfl⟩
  rw[hcs] at f2 f3 f4 f5
  obtain⟨⟨k1,k2⟩,k3,k4⟩:=x
  simp only[rpFx] at f1 f2
  obtain⟨L,hL⟩:∃L,l.map rpF=L:=⟨_,rfl⟩
  have hLl:L.length=l.length:=by rw[← hL];simp
  have hLi:L[i]? = some (rpF ((k1,k2),k3,k4)):=by rw[← hL,List.getElem?_map,hx];rfl
  have hall:allCells 4 L:=by rw[← hL];simp
  simp only[rpFx] at hLi
  rw[hL] at f3 ⊢
  have hil:i≤L.length:=by omega
  by_cases h0:fstE [o,if t=true then 12 else 0]=0
  ·rw[h0] at hE
   have hE':eachE own same l=eachF own same (l.take (i+1)) (l.drop (i+1)):=hE
   simp (maxSteps:=mS) [-getElem?_pos,-Prod.exists,-Prod.forall,-qb,hc,hLi]
   refine qk [] _ (k:=?_)
   repeat (first|refine qd _ (hs:=by simp (maxSteps:=mS) [-getElem?_pos,hc,hLi,f1,f2,f3,f4,f5,hg1,hg2,hall,hil];exact rfl) (k:=?_)|refine qe _ (k:=?_))
   refine qc ?_
   simp (maxSteps:=mS) [-Prod.exists,-Prod.forall,h0,w1]
   exact⟨(i+1,S++[c]),⟨by simp;omega,hE',J++[c],by rw[hJ];simp⟩,by simp;omega,by simp⟩
  ·have hE':eachE own same l=fstE [o,if t=true then 12 else 0]:=by rw[hE];unfold orI;rw[if_neg h0]
   simp (maxSteps:=mS) [-getElem?_pos,-Prod.exists,-Prod.forall,-qb,hc,hLi]
   refine qk [] _ (k:=?_)
   repeat (first|refine qd _ (hs:=by simp (maxSteps:=mS) [-getElem?_pos,hc,hLi,f1,f2,f3,f4,f5,hg1,hg2,hall,hil];exact rfl) (k:=?_)|refine qe _ (k:=?_))
   refine qc ?_
   subst hJ
   simp (maxSteps:=mS) [h0,hE',results80]
 ·have hi':i=l.length:=by omega
  subst hi'
  have hE':eachE own same l=0:=by rw[hE,List.drop_length,eachF]
  subst hJ
  simp (maxSteps:=mS) [hE',results80]
theorem qum (l:List (Rt)) (hl:l.length≤2^29) (g1 g2 g3:FuncId) (hg1:g1<100000) (hg2:g2<100000) (hg3:g3<100000) (own:Rt→Int) (same:Rt→Rt→Bool) (cs:Rt→List AV) (sh:Option (TypeId×Nat))
  (hown:∀x∈l,∀σ,ev g1 [rtF x] σ=some (.int .i64 (own x),σ)) (hsame:∀x∈l,∀σ:List (List AV),ev g2 [rtF x] σ=some (.fn g3 [.gp σ.length 0 sh],σ++[cs x]))
  (hq:∀x∈l,∀y,∀(σ:List (List AV)) b,σ[b]? = some (cs x)→ev g3 [rtF y,.gp b 0 sh] σ=some (.bool (same x y),σ)) (σ:List (List AV)) :
  ev 83 [.sl .sh (l.map rtF),.fn g1 [],.fn g2 []] σ=some (.int .i64 (eachE own same l),σ):=by
 have h7:=fun a b=>qav [a,b] (by simp)
 simp only[List.map_cons,List.map_nil] at h7
 refine qh func83 ntmps83 ?_
 simp (maxSteps:=mS) []
 refine qj (I:=fun p:Nat×List (List AV)=>⟨[(0,.sl .sh (l.map rtF)),(1,.fn g1 []),(2,.fn g2 []),(10,.sl .sh (l.map rtF)),(11,.int .i64 l.length),(12,.int .i64 p.1)],[],p.2⟩) (Pr:=fun p=>p.1≤l.length∧eachE own same l=eachF own same (l.take p.1) (l.drop p.1)∧∃J,p.2=σ++J) (μ:=fun p=>l.length-p.1) (a:=(0,σ)) (by simp) ⟨by simp,rfl,[],by simp⟩ ?_
 rintro⟨i,S⟩ ⟨hi,hE,J,hJ⟩
 simp only at hi hE hJ ⊢
 have w1:=wr1 i (by omega)
 by_cases hc:i<l.length
 ·obtain⟨x,hx⟩:=getS hc
  have hxm:=List.mem_of_getElem? hx
  have hst:=qel (own:=own) (same:=same) hx
  have f1:=hown x hxm S
  have f2:=hsame x hxm S
  have f3:=qe0 (l.take i) (by simp;omega) g3 hg3 [.gp S.length 0 sh] (by simp[args,arg,dem]) (same x) (S++[cs x]) (fun y _=>hq x hxm y _ _ (by simp))
  have f4:=fun b e=>qaw b e (S++[cs x])
  have f5:=fun a b=>h7 a b (S++[cs x])
  rw[hst] at hE
  rw[List.map_take] at f3
  obtain⟨o,ho⟩:∃o,own x=o:=⟨_,rfl⟩
  obtain⟨t,ht⟩:∃t,(l.take i).any (same x)=t:=⟨_,rfl⟩
  rw[ho] at f1 hE
  rw[ht] at f3 hE
  obtain⟨c,hcs⟩:∃c,cs x=c:=⟨_,rfl⟩
  rw[hcs] at f2 f3 f4 f5
  obtain⟨k1,k2⟩:=x
  simp only[rtFx] at f1 f2
  obtain⟨L,hL⟩:∃L,l.map rtF=L:=⟨_,rfl⟩
  have hLl:L.length=l.length:=by rw[← hL];simp
  have hLi:L[i]? = some (rtF (k1,k2)):=by rw[← hL,List.getElem?_map,hx];rfl
  have hall:allCells 2 L:=by rw[← hL];simp
  simp only[rtFx] at hLi
  rw[hL] at f3 ⊢
  have hil:i≤L.length:=by omega
  by_cases h0:fstE [o,if t=true then 12 else 0]=0
  ·rw[h0] at hE
   have hE':eachE own same l=eachF own same (l.take (i+1)) (l.drop (i+1)):=hE
   simp (maxSteps:=mS) [-getElem?_pos,-Prod.exists,-Prod.forall,-qb,hc,hLi]
   refine qk [] _ (k:=?_)
   repeat (first|refine qd _ (hs:=by simp (maxSteps:=mS) [-getElem?_pos,hc,hLi,f1,f2,f3,f4,f5,hg1,hg2,hall,hil];exact rfl) (k:=?_)|refine qe _ (k:=?_))
   refine qc ?_
   simp (maxSteps:=mS) [-Prod.exists,-Prod.forall,h0,w1]
   exact⟨(i+1,S++[c]),⟨by simp;omega,hE',J++[c],by rw[hJ];simp⟩,by simp;omega,by simp⟩
  ·have hE':eachE own same l=fstE [o,if t=true then 12 else 0]:=by rw[hE];unfold orI;rw[if_neg h0]
   simp (maxSteps:=mS) [-getElem?_pos,-Prod.exists,-Prod.forall,-qb,hc,hLi]
   refine qk [] _ (k:=?_)
   repeat (first|refine qd _ (hs:=by simp (maxSteps:=mS) [-getElem?_pos,hc,hLi,f1,f2,f3,f4,f5,hg1,hg2,hall,hil];exact rfl) (k:=?_)|refine qe _ (k:=?_))
   refine qc ?_
   subst hJ
   simp (maxSteps:=mS) [h0,hE',results83]
 ·have hi':i=l.length:=by omega
  subst hi'
  have hE':eachE own same l=0:=by rw[hE,List.drop_length,eachF]
  subst hJ
  simp (maxSteps:=mS) [hE',results83]
end Go.Proofs.Tryz.Ai
end
