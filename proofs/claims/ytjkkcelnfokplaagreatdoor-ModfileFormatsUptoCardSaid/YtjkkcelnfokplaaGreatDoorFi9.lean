/- Part 9 of a proof: Go functions are evaluated on abstract values; no conditions beyond those of each theorem. -/
import Derived.Test.YtjkkcelnfokplaaGreatDoorFi8
set_option linter.all false
set_option maxHeartbeats 16000000
set_option maxRecDepth 4000
section
namespace Go.Proofs.Tryz.Ai
open Go Go.AI Go.Proofs
structure SK where
 α:Type
 es:α→List AV
 sz:Nat
 ty:Nat
 fS:Nat
 fI:Nat
 fR:Nat
 fM:Nat
 fT:Nat
 fA:Nat
inductive K|q|t|p|m
abbrev Mo:=List UInt8×List UInt8
def esQ:Rq→List AV:=fun x=>[.str x.1,.str x.2.1,.bool x.2.2]
def esT:Rt→List AV:=fun x=>[.str x.1,.str x.2]
def esP:Rp→List AV:=fun x=>[.str x.1.1,.str x.1.2,.str x.2.1,.str x.2.2]
def esM:Mo→List AV:=fun x=>[.str x.1,.str x.2]
@[reducible] def K.d:K→SK
| .q=>⟨Rq,esQ,3,41,261,185,237,186,124,57⟩
| .t=>⟨Rt,esT,2,50,265,197,242,198,130,64⟩
| .p=>⟨Rp,esP,4,54,262,188,238,189,126,60⟩
| .m=>⟨Mo,esM,2,52,285,259,275,260,236,184⟩
structure KOk (κ:K) (E:κ.d.α→List AV) (ty sz:Nat):Prop where
 hE:∀x,E x=κ.d.es x
 hty:ty=κ.d.ty
 hsz:sz=κ.d.sz
theorem qyk (κ:K) (x:κ.d.α):(κ.d.es x).length=κ.d.sz:=by cases κ<;>rfl
theorem q08 (κ:K) (x:κ.d.α):(κ.d.es x).map dem=κ.d.es x:=by cases κ<;>rfl
theorem q09 (κ:K) (x:κ.d.α) (n:Nat):lowL n (κ.d.es x):=by cases κ<;>simp[K.d,esQ,esT,esP,esM]
theorem K.len {κ:K} {E:κ.d.α→List AV} {ty sz:Nat} (k:KOk κ E ty sz):∀D,(rowE E D).length=D.length*κ.d.sz:=qei fun x=>by rw[k.hE,qyk]
theorem K.dem {κ:K} {E:κ.d.α→List AV} {ty sz:Nat} (k:KOk κ E ty sz):∀D,(rowE E D).map AI.dem=rowE E D:=by
 intro D
 induction D with
 | nil=>rfl
 | cons a D ih=>unfold rowE at *;rw[List.flatMap_cons,List.map_append,ih,k.hE,q08]
theorem K.bnd {κ:K} {E:κ.d.α→List AV} {ty sz:Nat} (k:KOk κ E ty sz):∀D i,i<D.length→i*κ.d.sz+κ.d.sz≤(rowE E D).length:=by
 intro D i h
 rw[K.len k,← Nat.succ_mul];exact Nat.mul_le_mul_right _ h
theorem K.get {κ:K} {E:κ.d.α→List AV} {ty sz:Nat} (k:KOk κ E ty sz):∀D i x,D[i]? = some x→((rowE E D).drop (i*κ.d.sz)).take κ.d.sz=E x:=by
 intro D i x h
 have:=qnk (E:=E) (sz:=κ.d.sz) (fun x=>by rw[k.hE,qyk]) (fun x=>by rw[k.hE,q08]) h
 rwa [List.map_take,List.map_drop,K.dem k] at this
theorem K.set {κ:K} {E:κ.d.α→List AV} {ty sz:Nat} (k:KOk κ E ty sz):∀D i y,i<D.length→(rowE E D).take (i*κ.d.sz)++(E y++(rowE E D).drop (i*κ.d.sz+κ.d.sz))=rowE E (D.set i y) :=
 fun D i y h=>qur (E:=E) (sz:=κ.d.sz) (fun x=>by rw[k.hE,qyk]) h
theorem K.low {κ:K} {E:κ.d.α→List AV} {ty sz:Nat} (k:KOk κ E ty sz) (n:Nat):∀D,lowL n (rowE E D):=qq6 fun x=>by rw[k.hE];exact q09 κ x n
theorem qi9 {κ:K}:∀{EE:κ.d.α→List AV} {ty sz:Nat} (kk:KOk κ EE ty sz) (b:Nat) (σ:List (List AV)) (D:List κ.d.α) (x y n g:Nat) (hN:D.length≤2^30) (hx:x+n≤D.length) (hy:y+n≤D.length) (hb:b<σ.length),
  ev κ.d.fS [.ms ty sz b 0 D.length,.int .i64 x,.int .i64 y,.int .i64 n,.fn g []] (σ.set b (rowE EE D))=some (.tup [],σ.set b (rowE EE (swapN D x y n))):=by
 cases κ
 all_goals
  dsimp only[K.d]
  intro EE ty sz kk b σ D x y n g hN hx hy hb
  have eg:=K.get kk
  have eb:=K.bnd kk
  have es:=K.set kk
  have ed:=K.dem kk
  have lo:=K.low kk
  obtain⟨hE,hty,hsz⟩:=kk
  dsimp only[K.d] at eg eb es ed lo hE hty hsz
 refine qk func261 ntmps261 ?_
 rotate_left
 refine qk func265 ntmps265 ?_
 rotate_left
 refine qk func262 ntmps262 ?_
 rotate_left
 refine qk func285 ntmps285 ?_
 rotate_left
 all_goals
  simp only[esQ,esT,esP,esM] at hE
  simp only[hE,List.cons_append,List.nil_append] at eg es
  simp (maxSteps:=mS) [-Prod.forall,hty,hsz,ed]
  refine qf (I:=fun k:Nat=>⟨[(0,.ms ty sz b 0 D.length),(1,.int .i64 x),(2,.int .i64 y),(3,.int .i64 n),(10,.int .i64 k)],[],σ.set b (rowE EE (swapN D x y k))⟩) (Pr:=fun k=>k≤n) (μ:=fun k=>n-k) (a:=0) (by simp[hty,hsz,swapN]) (by simp) ?_
  intro k hk
  by_cases hc:k<n
  ·have hs:swapN D x y (k+1)=qiw (swapN D x y k) (x+k) (y+k):=rfl
   obtain⟨Dk,hDk⟩:∃Dk,swapN D x y k=Dk:=⟨_,rfl⟩
   have hl:Dk.length=D.length:=by rw[← hDk];simp
   rw[hDk] at hs
   obtain⟨i,hi⟩:∃i,x+k=i:=⟨_,rfl⟩
   obtain⟨j,hj⟩:∃i,y+k=i:=⟨_,rfl⟩
   rw[hi,hj] at hs
   obtain⟨u,hu⟩:∃u,Dk[i]? = some u:=⟨_,List.getElem?_eq_getElem (by omega)⟩
   obtain⟨v,hv⟩:∃u,Dk[j]? = some u:=⟨_,List.getElem?_eq_getElem (by omega)⟩
   rw[qcp hu hv] at hs
   have w1:IntKind.i64.wrap ((x:Int)+k)=(i:Int):=by rw[qh (by omega)];omega
   have w2:IntKind.i64.wrap ((y:Int)+k)=(j:Int):=by rw[qh (by omega)];omega
   have w3:=wr1 k (by omega)
   have q1:i<D.length:=by omega
   have q2:j<D.length:=by omega
   have q1':=eb Dk i (by omega)
   have q2':=eb (Dk.set i v) j (by simp;omega)
   have g1:=eg _ _ _ hu
   have r1:=eb _ _ (List.getElem?_eq_some_iff.1 hu).1
   have g2:=eg _ _ _ hv
   have r2:=eb _ _ (List.getElem?_eq_some_iff.1 hv).1
   have s1:=es (Dk) (i) v (by omega)
   have s2:=es (Dk.set i v) (j) u (by simp;omega)
   simp (maxSteps:=mS) [-Prod.forall,hty,hsz,ed,-getElem?_pos,hc,hDk,w1,w2,w3,q1,q2,q1',q2',g1,g2,r1,r2,s1,s2,hb]
   exact⟨k+1,by omega,by omega,by simp[hs]⟩
  ·have:k=n:=by omega
   subst this
   simp (maxSteps:=mS) [-Prod.forall,hty,hsz,ed,hc,results261,results265,results262,results285]
end Go.Proofs.Tryz.Ai
end
