/- Part 36 of a proof: Go functions are evaluated on abstract values; no conditions beyond those of each theorem. -/
import Derived.Test.YtjkkcelnfokplaaGreatDoorBi35
set_option linter.all false
set_option maxHeartbeats 16000000
set_option maxRecDepth 4000
section
namespace Go.Proofs.Tryz.Ai
open Go Go.AI Go.Proofs
def kpF {α:Type} (p:α→Bool) (D:List α) (i:Nat):List α:=(D.take i).filter fun x=>!p x
theorem qdf {α:Type} {p:α→Bool} {D:List α} {i:Nat} {x:α} (h:D[i]? = some x):kpF p D (i+1)=kpF p D i++if p x then [] else [x]:=by
 unfold kpF
 rw[List.take_add_one,h,List.filter_append]
 cases hp:p x<;>simp[hp]
theorem q02 {α:Type} (p:α→Bool) (D:List α) (i:Nat):(kpF p D i).length≤i:=by
 unfold kpF
 have:=List.length_filter_le (fun x=>!p x) (D.take i)
 simp at this;omega
structure DelI {α:Type} (p:α→Bool) (D:List α) (i:Nat) (C:List α):Prop where
 le:i≤D.length
 len:C.length=D.length
 fst:C.take (kpF p D i).length=kpF p D i
 snd:C.drop i=D.drop i
 lt:(kpF p D i).length<i
theorem DelI.get {α:Type} {p:α→Bool} {D:List α} {i:Nat} {C:List α} {x:α} (h:DelI p D i C) (hx:D[i]? = some x):C[i]? = some x:=by
 have h1:(C.drop i)[0]? = (D.drop i)[0]?:=by rw[h.snd]
 simpa[hx] using h1
theorem DelI.keep {α:Type} {p:α→Bool} {D:List α} {i:Nat} {C:List α} {x:α} (h:DelI p D i C) (hx:D[i]? = some x) (hp:p x=false):DelI p D (i+1) (C.set (kpF p D i).length x):=by
 have hi:=(List.getElem?_eq_some_iff.1 hx).1
 have hk:=qdf (p:=p) hx
 rw[hp] at hk
 simp only[Bool.false_eq_true,if_false] at hk
 have hl:=h.lt
 refine⟨by omega,by simp[h.len],?_,?_,by rw[hk];simp;omega⟩
 ·rw[hk,List.length_append,List.length_singleton,List.take_add_one,List.take_set_of_le (Nat.le_refl _),h.fst,List.getElem?_set_self (by rw[h.len];omega)]
  rfl
 ·rw[List.drop_set_of_lt (by omega)]
  have:C.drop (i+1)=(C.drop i).drop 1:=by rw[List.drop_drop]
  rw[this,h.snd,List.drop_drop]
theorem DelI.drop {α:Type} {p:α→Bool} {D:List α} {i:Nat} {C:List α} {x:α} (h:DelI p D i C) (hx:D[i]? = some x) (hp:p x=true):DelI p D (i+1) C:=by
 have hi:=(List.getElem?_eq_some_iff.1 hx).1
 have hk:=qdf (p:=p) hx
 rw[hp] at hk
 simp only[if_true,List.append_nil] at hk
 have hl:=h.lt
 refine⟨by omega,h.len,by rw[hk];exact h.fst,?_,by rw[hk];omega⟩
 have:C.drop (i+1)=(C.drop i).drop 1:=by rw[List.drop_drop]
 rw[this,h.snd,List.drop_drop]
theorem DelI.start {α:Type} {p:α→Bool} {D:List α} {i:Nat} {x:α} (hx:D[i]? = some x) (hn:(D.take i).any p=false) (hp:p x=true):(kpF p D i).length=i∧DelI p D (i+1) D:=by
 have hi:=(List.getElem?_eq_some_iff.1 hx).1
 have h0:kpF p D i=D.take i:=by
  unfold kpF
  rw[List.filter_eq_self]
  intro y hy
  rw[List.any_eq_false] at hn
  simpa using hn y hy
 have hl:(kpF p D i).length=i:=by rw[h0];simp;omega
 have hk:=qdf (p:=p) hx
 rw[hp] at hk
 simp only[if_true,List.append_nil] at hk
 exact⟨hl,⟨by omega,rfl,by rw[hk,hl,h0],rfl,by rw[hk];omega⟩⟩
theorem qj8 {α:Type} {p:α→Bool}:∀{D:List α},D.any p=true→∃i x,D[i]? = some x∧(D.take i).any p=false∧p x=true
 | [],h=>by simp at h
 | a::r,h=>by
  cases ha:p a with
  | true=>exact⟨0,a,rfl,rfl,ha⟩
  | false =>
   have h2:r.any p=true:=by simpa[ha] using h
   obtain⟨i,x,h3,h4,h5⟩:=qj8 h2
   exact⟨i+1,x,by simpa using h3,by simp[ha] at h4 ⊢;exact h4,h5⟩
def delR {κ:K} (p:κ.d.α→Bool) (D:List κ.d.α):List κ.d.α:=kpF p D D.length++List.replicate (D.length-(kpF p D D.length).length) κ.zr
theorem qru {α:Type} {E:α→List AV} {sz:Nat} (hE:∀x,(E x).length=sz) (L:List α) (m:Nat) (h:m≤L.length):(rowE E L).take (m*sz)=rowE E (L.take m):=by
 have e:rowE E L=rowE E (L.take m)++rowE E (L.drop m):=by unfold rowE;rw[← List.flatMap_append,List.take_append_drop]
 have hl:(rowE E (L.take m)).length=m*sz:=by rw[qbv hE,List.length_take,Nat.min_eq_left h]
 rw[e,← hl,List.take_left]
theorem zero_rowK {κ:K} {E:κ.d.α→List AV} {ty sz:Nat} (k:KOk κ E ty sz) (n:Nat):List.flatMap AV.cells (List.replicate n (.agg (κ.d.es κ.zr)))=rowE E (List.replicate n κ.zr):=by
 unfold rowE
 induction n with
 | zero=>rfl
 | succ n ih=>rw[List.replicate_succ,List.replicate_succ,List.flatMap_cons,List.flatMap_cons,ih,k.hE];rfl
theorem qn5 {κ:K} {E:κ.d.α→List AV} {ty sz:Nat} (k:KOk κ E ty sz) {p:κ.d.α→Bool} {D C:List κ.d.α} (hC:DelI p D D.length C) {m:Nat} (hm:(kpF p D D.length).length=m) :
  (rowE E C).take (m*κ.d.sz)++(rowE E (List.replicate (D.length-m) κ.zr)++(rowE E C).drop (m*κ.d.sz+(D.length-m)*κ.d.sz))=rowE E (delR p D):=by
 have hE:∀x,(E x).length=κ.d.sz:=fun x=>by rw[k.hE,qud]
 have hlt:=hC.lt
 have h1:(rowE E C).take (m*κ.d.sz)=rowE E (kpF p D D.length):=by
  rw[qru hE _ _ (by rw[hC.len];omega),← hm,hC.fst]
 have h2:(rowE E C).drop (m*κ.d.sz+(D.length-m)*κ.d.sz)=[]:=by
  rw[List.drop_eq_nil_iff,qbv hE,hC.len,← Nat.add_mul]
  exact Nat.mul_le_mul_right _ (by omega)
 rw[h1,h2,List.append_nil]
 unfold rowE delR
 rw[hm,List.flatMap_append]
theorem qrv {κ:K} {E:κ.d.α→List AV} {ty sz:Nat} (k:KOk κ E ty sz) {n m:Nat} (h:m≤n):m*κ.d.sz+(n-m)*κ.d.sz≤n*κ.d.sz:=by
 rw[← Nat.add_mul];exact Nat.mul_le_mul_right _ (by omega)
theorem qu6 {κ:K} (p:κ.d.α→Bool) (D:List κ.d.α):(delR p D).length=D.length:=by
 have:=q02 p D D.length
 unfold delR;simp;omega
theorem qg1 {κ:K}:∀{EE:κ.d.α→List AV} {ty sz:Nat} (kk:KOk κ EE ty sz) (b:Nat) (σ:List (List AV)) (D:List κ.d.α) (hN:D.length≤2^30) (hb:b<σ.length) (g:FuncId) (hg:g<100000) (cap:List AV) (hcap:args cap=some cap) (p:κ.d.α→Bool)
  (h:∀(C:List κ.d.α),∀k∈D,ev g (.agg (EE k)::cap) (σ.set b (rowE EE C))=some (.bool (p k),σ.set b (rowE EE C))),
  D.any p=true→∀R,R=delR p D→ev κ.fD [.ms ty sz b 0 D.length,.fn g cap] (σ.set b (rowE EE D))=some (.ms ty sz b 0 (kpF p D D.length).length,σ.set b (rowE EE R)):=by
 cases κ
 all_goals
  dsimp only[K.d,K.fD]
  intro EE ty sz kk b σ D hN hb g hg cap hcap p h ha R hR
  have hI:=qdk kk b σ D hN hb g hg cap hcap p (h D)
  dsimp only[K.fX] at hI
  have eg:=K.get kk
  have eb:=K.bnd kk
  have es:=K.set kk
  have ed:=K.dem kk
  have el:=K.len kk
  have lo:=K.low kk
  have ez:=zero_rowK kk
  have ec:=fun C (hC:DelI p D D.length C) m hm=>(qn5 kk hC (m:=m) hm).trans (congrArg (rowE EE) hR.symm)
  have eq_:=fun m (h:m≤D.length)=>qrv kk h
  obtain⟨hE,hty,hsz⟩:=kk
  dsimp only[K.d] at eg eb es ed el lo hE hty hsz ez ec eq_
  simp only[hty,hsz] at hI
  simp only[esQ,esT,esP,esM,K.zr] at ez
  obtain⟨i0,x0,hx0,hn0,hp0⟩:=qj8 ha
  rw[fixA_at hx0 hn0 hp0] at hI
  obtain⟨hk0,hD0⟩:=DelI.start hx0 hn0 hp0
  have hi0:=(List.getElem?_eq_some_iff.1 hx0).1
 refine qh func161 ntmps161 ?_
 rotate_left
 refine qh func223 ntmps223 ?_
 rotate_left
 refine qh func222 ntmps222 ?_
 rotate_left
 refine qh func220 ntmps220 ?_
 rotate_left
 all_goals
  simp only[esQ,esT,esP,esM] at hE
  simp only[hE,List.cons_append,List.nil_append] at eg h es
  have w0:=wr1 i0 (by omega)
  have hne:¬(i0:Int)=-1:=by omega
  simp (maxSteps:=mS) [-Prod.forall,hty,hsz,ed,hcap,hI,w0,hne]
  refine qj (I:=fun q:Nat×List _=>⟨[(0,.ms ty sz b 0 D.length),(1,.fn g cap),(5,.int .i64 (kpF p D q.1).length),(6,.int .i64 q.1)],[],σ.set b (rowE EE q.2)⟩) (Pr:=fun q=>DelI p D q.1 q.2) (μ:=fun q=>D.length-q.1) (a:=(i0+1,D)) (by simp[hty,hsz,qdf hx0,hp0,hk0]) hD0 ?_
  rintro⟨i,C⟩ hC
  try simp only at hC
  have w1:IntKind.i64.wrap ((i:Int)+1)=(i:Int)+1:=ql (by have:=hC.le;omega)
  have hlt:=hC.lt
  have hle:=hC.le
  have hlen:=hC.len
  by_cases hc:i<D.length
  ·obtain⟨k,hk⟩:=getS hc
   have hv:=h C k (List.mem_of_getElem? hk)
   have hCk:=hC.get hk
   have g1:=eg _ _ _ hCk
   have r1:=eb C i (by omega)
   cases hp:p k with
   | true =>
    rw[hp] at hv
    have hnx:=hC.drop hk hp
    have hkp:kpF p D (i+1)=kpF p D i:=by rw[qdf hk,hp];simp
    simp (maxSteps:=mS) [-getElem?_pos,-Prod.exists,-Prod.forall,hty,hsz,ed,hb,hc,g1,r1,hg,hcap,hv,w1]
    exact⟨(i+1,C),hnx,by simp;omega,by simp[hkp]⟩
   | false =>
    rw[hp] at hv
    have hnx:=hC.keep hk hp
    have hkp:kpF p D (i+1)=kpF p D i++[k]:=by rw[qdf hk,hp];simp
    obtain⟨m,hm⟩:∃m,(kpF p D i).length=m:=⟨_,rfl⟩
    rw[hm] at hnx hlt ⊢
    have hmD:m<D.length:=by omega
    have r2:=eb C m (by omega)
    have s1:=es C m k (by omega)
    have w2:=wr1 m (by omega)
    simp (maxSteps:=mS) [-getElem?_pos,-Prod.exists,-Prod.forall,hty,hsz,ed,hb,hc,hmD,g1,r1,r2,s1,hg,hcap,hv,w1,w2]
    exact⟨(i+1,C.set m k),hnx,by simp;omega,by simp[hkp,hm]⟩
  ·obtain rfl:i=D.length:=by omega
   obtain⟨m,hm⟩:∃m,(kpF p D D.length).length=m:=⟨_,rfl⟩
   rw[hm] at hlt ⊢
   have e1:=ec C hC m hm
   simp only[K.zr] at e1
   have hz:=el C
   rw[hlen] at hz
   have hb':¬σ.length≤b:=by omega
   have hls:lowS (σ.set b (rowE EE D)) (σ.set b (rowE EE R)):=by
    have:=qdz (σ:=σ.set b (rowE EE D)) (b:=b) (x:=rowE EE R) (lo _ _)
    rwa [List.set_set] at this
   have htk:(σ.set b (rowE EE R)).take σ.length=σ.set b (rowE EE R):=List.take_of_length_le (by simp)
   have hmle:m≤D.length:=by omega
   have hq:=eq_ m hmle
   by_cases m0:m=0
   ·subst m0
    simp only[Nat.zero_mul,Nat.sub_zero,List.take_zero,List.nil_append,Nat.zero_add] at e1
    have hD0:0<D.length:=by omega
    simp (maxSteps:=mS) [-getElem?_pos,hty,hsz,ed,hb,hb',hc,hlt,ez,e1,hz,hD0,hls,htk,results161,results223,results222,results220]
   ·have hmn:¬m=D.length:=by omega
    have hD0:0<D.length-m:=by omega
    simp (maxSteps:=mS) [-getElem?_pos,hty,hsz,ed,hb,hb',hc,hlt,m0,hmn,hmle,ez,e1,hz,hD0,hq,hls,htk,results161,results223,results222,results220]
end Go.Proofs.Tryz.Ai
end
section
namespace Go.Proofs.Tryz.Ai
open Go Go.AI Go.Proofs
theorem qe1 {κ:K}:∀{EE:κ.d.α→List AV} {ty sz:Nat} (kk:KOk κ EE ty sz) (b:Nat) (σ:List (List AV)) (D:List κ.d.α) (hN:D.length≤2^30) (hb:b<σ.length) (g:FuncId) (hg:g<100000) (cap:List AV) (hcap:args cap=some cap) (p:κ.d.α→Bool)
  (h:∀k∈D,ev g (.agg (EE k)::cap) (σ.set b (rowE EE D))=some (.bool (p k),σ.set b (rowE EE D))),
  D.any p=false→ev κ.fD [.ms ty sz b 0 D.length,.fn g cap] (σ.set b (rowE EE D))=some (.ms ty sz b 0 D.length,σ.set b (rowE EE D)):=by
 cases κ
 all_goals
  dsimp only[K.d,K.fD]
  intro EE ty sz kk b σ D hN hb g hg cap hcap p h ha
  have hI:=qdk kk b σ D hN hb g hg cap hcap p h
  dsimp only[K.fX] at hI
  rw[fixA_none ha] at hI
  obtain⟨hE,hty,hsz⟩:=kk
  dsimp only[K.d] at hE hty hsz
  simp only[hty,hsz] at hI
  have hb':¬σ.length≤b:=by omega
  have htk:(σ.set b (rowE EE D)).take σ.length=σ.set b (rowE EE D):=List.take_of_length_le (by simp)
 refine qh func161 ntmps161 ?_
 rotate_left
 refine qh func223 ntmps223 ?_
 rotate_left
 refine qh func222 ntmps222 ?_
 rotate_left
 refine qh func220 ntmps220 ?_
 rotate_left
 all_goals simp (maxSteps:=mS) [hty,hsz,hcap,hI,hb,hb',htk,results161,results223,results222,results220]
theorem qg2 (κ:K):∀(g:FuncId) (cap:List AV) (hcap:args cap=some cap) (σ:List (List AV)),ev κ.fX [.sl .sh [],.fn g cap] σ=some (.int .i64 (-1),σ):=by
 cases κ
 all_goals
  dsimp only[K.fX]
  intro g cap hcap σ
 refine qh func70 ntmps70 ?_
 rotate_left
 refine qh func214 ntmps214 ?_
 rotate_left
 refine qh func92 ntmps92 ?_
 rotate_left
 refine qh func213 ntmps213 ?_
 rotate_left
 all_goals
  simp (maxSteps:=mS) [hcap]
  refine qj (I:=fun i:Nat=>⟨[(0,.sl .sh []),(1,.fn g cap),(7,.int .i64 0),(8,.int .i64 0)],[],σ⟩) (Pr:=fun i=>True) (μ:=fun i=>0) (a:=0) (by simp) trivial ?_
  intro i _
  simp (maxSteps:=mS) [results70,results214,results92,results213]
theorem qgg (κ:K):∀(g:FuncId) (cap:List AV) (hcap:args cap=some cap) (σ:List (List AV)),ev κ.fD [.sl (.ex κ.d.ty κ.d.sz) [],.fn g cap] σ=some (.sl (.ex κ.d.ty κ.d.sz) [],σ):=by
 have h:=qg2 κ
 cases κ
 all_goals
  dsimp only[K.fX,K.fD,K.d] at h ⊢
  intro g cap hcap σ
  have h1:=h g cap hcap σ
 refine qh func161 ntmps161 ?_
 rotate_left
 refine qh func223 ntmps223 ?_
 rotate_left
 refine qh func222 ntmps222 ?_
 rotate_left
 refine qh func220 ntmps220 ?_
 rotate_left
 all_goals simp (maxSteps:=mS) [hcap,h1,results161,results223,results222,results220]
theorem qmn {α:Type} {E:α→List AV} {F:α→AV} {sz:Nat} (hF:∀x,F x=.agg (E x)) (hl:∀x,(E x).length=sz) (hd:∀x,(E x).map dem=E x) (h0:0<sz) (l m:List α):els2 true sz sz (rowE E (l++m)) 0 l.length=some (l.map F):=by
 have hL:l.length*sz≤(rowE E (l++m)).length:=by rw[qbv hl,List.length_append,Nat.add_mul];omega
 rw[qh0,if_pos ⟨rfl,h0,by omega⟩]
 congr 1
 apply List.ext_getElem?
 intro i
 by_cases hi:i<l.length
 ·obtain⟨x,hx⟩:=getS hi
  have hx2:(l++m)[i]? = some x:=by rw[List.getElem?_append_left hi,hx]
  have:=qh9 (E:=E) (sz:=sz) hl hd hx2
  rw[List.getElem?_map,List.getElem?_range hi,List.getElem?_map,hx]
  simp only[Option.map_some,Nat.zero_add,this,hF]
 ·rw[List.getElem?_eq_none (by simpa using Nat.le_of_not_lt hi),List.getElem?_eq_none (by simpa using Nat.le_of_not_lt hi)]
end Go.Proofs.Tryz.Ai
end
section
namespace Go.Proofs.Tryz.Ai
open Go Go.AI Go.Proofs
theorem qr0 {α:Type} (p:α→Bool) (D:List α):kpF p D D.length=D.filter fun x=>!p x:=by unfold kpF;rw[List.take_length]
theorem qyo {α:Type} {p:α→Bool} {D:List α} (h:D.any p=false):(D.filter fun x=>!p x)=D:=by
 rw[List.filter_eq_self]
 rw[List.any_eq_false] at h
 intro x hx
 simpa using h x hx
theorem qgh (L:List Rq) (hl:L.length≤2^29) (g:FuncId) (hg:g<100000) (cap:List AV) (hcap:args cap=some cap) (p:Rq→Bool) (σ:List (List AV)) (hlo:lowL σ.length cap)
  (h:∀X,∀k∈L,ev g (rqF k::cap) (σ++[X])=some (.bool (p k),σ++[X])) :
  ev 96 [.sl .sh (L.map rqF),.fn g cap] σ=some (.tup [.sl (.ex 41 3) ((L.filter fun x=>!p x).map rqF),.bool (decide ((L.filter fun x=>!p x).length<L.length))],σ):=by
 by_cases h0:L=[]
 ·subst h0
  have hc:=qge σ
  have hd:=qgg .q g cap hcap σ
  dsimp only[K.fD,K.d] at hd
  refine qh func96 ntmps96 ?_
  simp (maxSteps:=mS) [hcap,hc,hd,results96]
 ·have hc:=qho L hl h0 σ
  have hne:0<L.length:=List.length_pos_iff.2 h0
  obtain⟨LL,hLL⟩:∃X,L.map rqF=X:=⟨_,rfl⟩
  have hLl:LL.length=L.length:=by rw[← hLL];simp
  have hb:σ.length<(σ++[rowE esQ L]).length:=by simp
  have hs:∀X,(σ++[rowE esQ L]).set σ.length X=σ++[X]:=fun X=>by simp
  have hn1:∀X:List AV,(σ++[X]).length=σ.length+1:=fun X=>by simp
  cases ha:L.any p with
  | false =>
   have hd:=qe1 kkQ σ.length (σ++[rowE esQ L]) L (by omega) hb g hg cap hcap p (fun k hk=>by rw[hs];exact h _ k hk) ha
   dsimp only[K.fD] at hd
   rw[hs] at hd
   have he:=qmn (F:=rqF) (E:=esQ) (sz:=3) (fun _=>rfl) (fun _=>rfl) (fun _=>rfl) (by decide) L []
   rw[List.append_nil] at he
   have hrne:rowE esQ L≠[]:=fun e=>by have:=qbv (E:=esQ) (sz:=3) (fun _=>rfl) L;rw[e] at this;simp at this;omega
   rw[qyo ha]
   rw[hLL] at hc he ⊢
   have hLo:lowL σ.length LL:=by rw[← hLL];simp
   refine qh func96 ntmps96 ?_
   simp (maxSteps:=mS) [hcap,hc,hd,hLl,he,hne,hrne,hLo,results96]
  | true =>
   have hd:=qg1 kkQ σ.length (σ++[rowE esQ L]) L (by omega) hb g hg cap hcap p (fun X k hk=>by rw[hs];exact h _ k hk) ha _ rfl
   dsimp only[K.fD] at hd
   rw[hs,hs,qr0] at hd
   have he:els2 true 3 3 (rowE esQ (delR (κ:=.q) p L)) 0 (L.filter fun x=>!p x).length=some ((L.filter fun x=>!p x).map rqF):=by
    have:=qmn (F:=rqF) (E:=esQ) (sz:=3) (fun _=>rfl) (fun _=>rfl) (fun _=>rfl) (by decide) (L.filter fun x=>!p x) (List.replicate (L.length-(L.filter fun x=>!p x).length) (K.zr .q))
    unfold delR
    rw[qr0];exact this
   obtain⟨R,hR⟩:∃R,rowE esQ (delR (κ:=.q) p L)=R:=⟨_,rfl⟩
   have hrne:R≠[]:=fun e=>by
    have h1:=qbv (E:=esQ) (sz:=3) (fun _=>rfl) (delR (κ:=.q) p L)
    rw[hR,e,qu6] at h1;simp at h1;omega
   have hLo:lowL σ.length ((L.filter fun x=>!p x).map rqF):=by simp
   have hfl:=List.length_filter_le (fun x=>!p x) L
   obtain⟨F,hF⟩:∃F,(L.filter fun x=>!p x)=F:=⟨_,rfl⟩
   rw[hF] at he hLo hfl hd ⊢
   rw[hR] at hd he
   obtain⟨FF,hFF⟩:∃X,F.map rqF=X:=⟨_,rfl⟩
   rw[hLL] at hc ⊢
   rw[hFF] at he hLo ⊢
   refine qh func96 ntmps96 ?_
   simp (maxSteps:=mS) [hcap,hc,hd,hLl,he,hrne,hLo,results96]
theorem qyp (L:List Rq) (hl:L.length≤2^28) (x:Rq) (g:FuncId) (hg:g<100000) (cap:List AV) (hcap:args cap=some cap) (p:Rq→Bool) (σ:List (List AV)) (hlo:lowL σ.length cap)
  (h:∀X,∀k∈L,ev g (rqF k::cap) (σ++[X])=some (.bool (p k),σ++[X])) :
  ev 94 [.sl .sh (L.map rqF),rqF x,.fn g cap] σ=some (.tup [.sl .sh (((L.filter fun x=>!p x)++[x]).map rqF),.int .i64 (if 200<((L.filter fun x=>!p x)++[x]).length then 14 else 0)],σ):=by
 have hw:=qgh L (by omega) g hg cap hcap p σ hlo h
 have hwh:=fun b σ=>qaw b 14 σ
 have hfl:=List.length_filter_le (fun x=>!p x) L
 obtain⟨F,hF⟩:∃F,(L.filter fun x=>!p x)=F:=⟨_,rfl⟩
 rw[hF] at hw hfl ⊢
 have hall:allCells 3 (F.map rqF):=by simp
 rw[List.map_append]
 obtain⟨FF,hFF⟩:∃X,F.map rqF=X:=⟨_,rfl⟩
 have hFl:FF.length=F.length:=by rw[← hFF];simp
 rw[hFF] at hw hall ⊢
 have hb:FF.length+1≤most:=by unfold most;omega
 have hfin:(F++[x]).length=FF.length+1:=by simp[hFl]
 rw[hfin]
 obtain⟨x1,x2,x3⟩:=x
 simp only[List.map_cons,List.map_nil,rqFx]
 refine qh func94 ntmps94 ?_
 simp (maxSteps:=mS) [hcap,hw,hwh,hall,hb,results94]
 by_cases hq:200<FF.length+1
 ·rw[if_pos (by omega),if_pos hq]
 ·rw[if_neg (by omega),if_neg hq]
end Go.Proofs.Tryz.Ai
end
section
namespace Go.Proofs.Tryz.Ai
open Go Go.AI Go.Proofs
theorem qr1 (f:Mf) (hf:MfB f) (e:Int) (σ:List (List AV)):ev 95 [mfF f,.int .i64 e] σ=some (.tup [mfF (if e=0 then canonM f else mf0),.int .i64 e],σ):=by
 have hC:=fun σ=>qd8 f hf σ
 by_cases h0:e=0
 ·subst h0
  rw[if_pos rfl]
  obtain⟨c,hc⟩:∃c,canonM f=c:=⟨_,rfl⟩
  rw[hc] at hC ⊢
  simp only[mfFx] at hC ⊢
  refine qh func95 ntmps95 ?_
  simp (maxSteps:=mS) [hC,results95]
 ·rw[if_neg h0]
  simp only[mfFx,mf0,List.map_nil]
  refine qh func95 ntmps95 ?_
  simp (maxSteps:=mS) [h0,results95]
theorem fixA_nofG {α:Type} {K:List α} {p:α→Bool} (h:K.find? p=none):fixA K p=-1:=by
 unfold fixA
 rw[if_neg]
 rw[List.find?_eq_none] at h
 simp only[List.any_eq_true,not_exists,not_and]
 exact fun x hx=>h x hx
theorem fixA_someG {α:Type} {K:List α} {p:α→Bool} {x:α} (h:K.find? p=some x):∃i:Nat,fixA K p=(i:Int)∧K[i]? = some x:=by
 have hm:=List.mem_of_find?_eq_some h
 have hp:=List.find?_some h
 refine⟨K.findIdx p,?_,?_⟩
 ·unfold fixA
  rw[if_pos (List.any_eq_true.2 ⟨x,hm,hp⟩)]
 ·rw[List.find?_eq_some_iff_getElem] at h
  obtain⟨_,i,hi,hx,hlt⟩:=h
  have hf:K.findIdx p=i:=by
   rw[List.findIdx_eq hi]
   exact⟨by rw[hx];exact hp,fun j hj=>by simpa using hlt j hj⟩
  rw[hf,List.getElem?_eq_getElem hi,hx]
theorem qhr (f:Mf) (hl:f.rq.length≤2^29) (p:List UInt8) (σ:List (List AV)):ev 21 [mfF f,.str p] σ=some (.tup [.str ((verQ f.rq p).getD []),.bool (verQ f.rq p).isSome],σ):=by
 have hO:=qcb p σ
 have hI:=qd4 f.rq (by omega) 132 (by decide) [.gp σ.length 0 (some (9,1))] (by simp[args,arg,dem]) (isQ p) (σ++[[.str p]]) (fun y _=>qbg p _ _ y _ (by simp))
 rw[mfFx]
 obtain⟨LQ,hLQ⟩:∃L,f.rq.map rqF=L:=⟨_,rfl⟩
 cases hq:f.rq.find? (isQ p) with
 | none =>
  rw[fixA_nofG hq] at hI
  have hv:verQ f.rq p=none:=by unfold verQ;rw[hq];rfl
  rw[hv]
  rw[hLQ] at hI ⊢
  refine qh func21 ntmps21 ?_
  simp (maxSteps:=mS) [-qb]
  refine qk [] _ (k:=?_)
  repeat (first|refine qd _ (hs:=by simp (maxSteps:=mS) [hO,hI];exact rfl) (k:=?_)|refine qe _ (k:=?_))
  refine qc ?_
  simp (maxSteps:=mS) [results21]
 | some x =>
  obtain⟨i,h1,h2⟩:=fixA_someG hq
  rw[h1] at hI
  have hv:verQ f.rq p=some x.2.1:=by unfold verQ;rw[hq];rfl
  rw[hv]
  have hxL:LQ[i]? = some (.agg [.str x.1,.str x.2.1,.bool x.2.2]):=by rw[← hLQ,List.getElem?_map,h2];rfl
  have hi:i<LQ.length:=(List.getElem?_eq_some_iff.1 hxL).1
  rw[hLQ] at hI ⊢
  refine qh func21 ntmps21 ?_
  simp (maxSteps:=mS) [-getElem?_pos,-qb]
  refine qk [] _ (k:=?_)
  repeat (first|refine qd _ (hs:=by simp (maxSteps:=mS) [hO,hI];exact rfl) (k:=?_)|refine qe _ (k:=?_))
  refine qc ?_
  simp (maxSteps:=mS) [-getElem?_pos,hi,hxL,results21]
theorem q04 (p:List UInt8) (L:List Rq):(L.filter fun x=>!isQ p x)=rmQ p L:=rfl
theorem MfB.rq' {f:Mf} (h:MfB f) {L:List Rq} (hl:L.length≤2^29) (hL:∀x∈L,x.1.length≤2^29∧x.2.1.length≤2^29):MfB {f with rq:=L}:={h with lq:=hl,rq:=hL}
theorem qg4 (f:Mf) (hf:MfB f) (p:List UInt8) (σ:List (List AV)):ev 30 [mfF f,.str p] σ=some (.tup [mfF (drpR f p),.bool (drpB f p)],σ):=by
 have hO:=qcb p σ
 have hw:=qgh f.rq hf.lq 132 (by decide) [.gp σ.length 0 (some (9,1))] (by simp[args,arg,dem]) (isQ p) (σ++[[.str p]]) (by simp[low,lowL]) (fun X y _=>qbg p _ _ y _ (by simp))
 rw[q04] at hw
 have hC:=fun σ=>qd8 {f with rq:=rmQ p f.rq} (hf.rq' (by have:=qwa p f.rq;have:=hf.lq;omega) fun x hx=>hf.rq x (qdt.1 hx).1) σ
 have hd:drpR f p=canonM {f with rq:=rmQ p f.rq}:=rfl
 have hb:drpB f p=decide ((rmQ p f.rq).length<f.rq.length):=rfl
 rw[← hd] at hC
 rw[← hb] at hw
 obtain⟨c,hc⟩:∃c,drpR f p=c:=⟨_,rfl⟩
 rw[hc] at hC ⊢
 obtain⟨B,hB⟩:∃B,drpB f p=B:=⟨_,rfl⟩
 rw[hB] at hw ⊢
 simp only[mfFx] at hC ⊢
 obtain⟨LQ,hLQ⟩:∃L,f.rq.map rqF=L:=⟨_,rfl⟩
 obtain⟨LR,hLR⟩:∃L,(rmQ p f.rq).map rqF=L:=⟨_,rfl⟩
 rw[hLR] at hw hC
 rw[hLQ] at hw ⊢
 refine qh func30 ntmps30 ?_
 simp (maxSteps:=mS) [-qb]
 refine qk [] _ (k:=?_)
 repeat (first|refine qd _ (hs:=by simp (maxSteps:=mS) [hO,hw];exact rfl) (k:=?_)|refine qe _ (k:=?_))
 refine qc ?_
 simp (maxSteps:=mS) [hC,results30]
theorem qyq (L:List Rq) (r:Rq):(L.filter fun x=>!isQ r.1 x)++[r]=addQ L r:=rfl
theorem qbd (f:Mf) (hf:MfB f) (hl:f.rq.length≤2^28) (r:Rq) (h1:r.1.length≤2^29) (h2:r.2.1.length≤2^29) (σ:List (List AV)):ev 29 [mfF f,rqF r] σ=some (.tup [mfF (if addE f r=0 then addR f r else mf0),.int .i64 (addE f r)],σ):=by
 have hO:=qcb r.1 σ
 have hp:=qyp f.rq hl r 132 (by decide) [.gp σ.length 0 (some (9,1))] (by simp[args,arg,dem]) (isQ r.1) (σ++[[.str r.1]]) (by simp[low,lowL]) (fun X y _=>qbg r.1 _ _ y _ (by simp))
 rw[qyq] at hp
 have hP:=qde r.1 r.2.1 (by omega) (by omega)
 have hW:=fun b σ=>qaw b 12 σ
 have hof:=fun σ=>qun r σ
 have hE:=fun σ=>qr1 {f with rq:=addQ f.rq r} (hf.rq' (by have:=qi0 f.rq r;omega) fun x hx=>by
  rcases List.mem_append.1 hx with h|h
  ·exact hf.rq x (qdt.1 h).1
  ·rw[List.mem_singleton.1 h];exact⟨h1,h2⟩) (addE f r) σ
 have hd:canonM {f with rq:=addQ f.rq r}=addR f r:=rfl
 rw[hd] at hE
 have hfs:=fun σ=>qav [(checkB r.1 r.2.1:Int),if r.1=f.m then 12 else 0,if 200<(addQ f.rq r).length then 14 else 0] (by simp) σ
 have he:addE f r=fstE [(checkB r.1 r.2.1:Int),if r.1=f.m then 12 else 0,if 200<(addQ f.rq r).length then 14 else 0]:=rfl
 rw[← he] at hfs
 obtain⟨E,hEe⟩:∃E,addE f r=E:=⟨_,rfl⟩
 rw[hEe] at hE hfs ⊢
 obtain⟨c,hc⟩:∃c,(if E=0 then addR f r else mf0)=c:=⟨_,rfl⟩
 rw[hc] at hE ⊢
 obtain⟨pp,hpp⟩:∃e:Int,(checkB r.1 r.2.1:Int)=e:=⟨_,rfl⟩
 obtain⟨ll,hll⟩:∃e:Int,(if 200<(addQ f.rq r).length then 14 else 0)=e:=⟨_,rfl⟩
 rw[hpp] at hP hfs
 rw[hll] at hp hfs
 simp only[List.map_cons,List.map_nil] at hfs
 obtain⟨r1,r2,r3⟩:=r
 simp only[mfFx,rqFx,modAx] at hE hp hof hP hO hfs ⊢
 obtain⟨LQ,hLQ⟩:∃L,f.rq.map rqF=L:=⟨_,rfl⟩
 obtain⟨LA,hLA⟩:∃L,(addQ f.rq (r1,r2,r3)).map rqF=L:=⟨_,rfl⟩
 rw[hLA] at hp hE
 rw[hLQ] at hp ⊢
 by_cases hm:r1=f.m
 ·have hm':(r1==f.m)=true:=by simpa using hm
  rw[if_pos hm] at hfs
  refine qh func29 ntmps29 ?_
  simp (maxSteps:=mS) [-beq_iff_eq,-qb]
  refine qk [] _ (k:=?_)
  repeat (first|refine qd _ (hs:=by simp (maxSteps:=mS) [-beq_iff_eq,hO,hp];exact rfl) (k:=?_)|refine qe _ (k:=?_))
  refine qc ?_
  simp (maxSteps:=mS) [-beq_iff_eq,-qb]
  refine qk [] _ (k:=?_)
  repeat (first|refine qd _ (hs:=by simp (maxSteps:=mS) [-beq_iff_eq,hof,hP,hW,hm',hfs,hE];exact rfl) (k:=?_)|refine qe _ (k:=?_))
  refine qc ?_
  simp (maxSteps:=mS) [results29]
 ·have hm':(r1==f.m)=false:=by simpa using hm
  rw[if_neg hm] at hfs
  refine qh func29 ntmps29 ?_
  simp (maxSteps:=mS) [-beq_iff_eq,-beq_eq_false_iff_ne,-qb]
  refine qk [] _ (k:=?_)
  repeat (first|refine qd _ (hs:=by simp (maxSteps:=mS) [-beq_iff_eq,-beq_eq_false_iff_ne,hO,hp];exact rfl) (k:=?_)|refine qe _ (k:=?_))
  refine qc ?_
  simp (maxSteps:=mS) [-beq_iff_eq,-beq_eq_false_iff_ne,-qb]
  refine qk [] _ (k:=?_)
  repeat (first|refine qd _ (hs:=by simp (maxSteps:=mS) [-beq_iff_eq,-beq_eq_false_iff_ne,hof,hP,hW,hm',hfs,hE];exact rfl) (k:=?_)|refine qe _ (k:=?_))
  refine qc ?_
  simp (maxSteps:=mS) [results29]
end Go.Proofs.Tryz.Ai
end
section
namespace Go.Proofs.Tryz.Ai
open Go Go.AI Go.Proofs
theorem qr2 {f:Mf} (h:MfB f) (hl:f.rq.length≤2^28) {r:Rq} (h1:r.1.length≤2^29) (h2:r.2.1.length≤2^29):MfB (addR f r):=by
 have hl:=qi0 f.rq r
 have hm:∀x∈addQ f.rq r,x.1.length≤2^29∧x.2.1.length≤2^29:=fun x hx=>by
  rcases List.mem_append.1 hx with h'|h'
  ·exact h.rq x (qdt.1 h').1
  ·rw[List.mem_singleton.1 h'];exact⟨h1,h2⟩
 exact⟨h.m,h.g,by simp only[addR,canonM,qv];omega,by simp only[addR,canonM,qv];exact h.le,by simp only[addR,canonM,qv];exact h.lp,by simp only[addR,canonM,qv];exact h.lt,
  fun x hx=>hm x (q9.1 hx),fun x hx=>h.ex x (q9.1 hx),fun x hx=>h.rp x (q9.1 hx),fun x hx=>h.rt x (q9.1 hx)⟩
def cntQ (p:List UInt8) (L:List Rq):Nat:=(L.filter fun x=>x.1==p).length
theorem qr3 {p:List UInt8} {L:List Rq} {i:Nat} {x:Rq} (h:L[i]? = some x):cntQ p (L.take (i+1))=cntQ p (L.take i)+if x.1==p then 1 else 0:=by
 unfold cntQ
 rw[List.take_add_one,h,List.filter_append,List.length_append]
 cases e:x.1==p<;>simp[e]
theorem qyr (p:List UInt8) (L:List Rq):cntQ p L≤L.length:=List.length_filter_le _ _
theorem qwb (f:Mf) (r:Rq):(addR f r).m=f.m:=rfl
theorem qr4 {f:Mf} (h:mfE f=0):f.rq.Pairwise fun y x=>y.1≠x.1:=(qiy.1 h).2.1.rqd
theorem qr5 {L:List Rq} {p:List UInt8} (h:verQ L p=none):∀x∈L,x.1≠p:=by
 unfold verQ at h
 cases e:L.find? (isQ p) with
 | none =>
  intro x hx hp
  have:=List.find?_eq_none.1 e x hx
  rw[qds.2 hp] at this;exact this rfl
 | some y=>rw[e] at h;cases h
theorem qva (f:Mf) (hb:MfB f) (hL:f.rq.length≤2^20) (a b:Rq) (ha1:a.1.length≤2^20) (ha2:a.2.1.length≤2^20) (hb1:b.1.length≤2^20) (hb2:b.2.1.length≤2^20) (σ:List (List AV)):ev1 6 [mfF f,rqF a,rqF b] σ=some (.bool true,σ):=by
 have hF:=first_eq
 have hN:=fun e σ=>lift (qv7 e σ)
 obtain⟨bf,hFw⟩:=qyj f σ
 have hFw:=lift hFw
 have hK:=fun σ=>lift (qj5 f hb σ)
 have hV:=fun σ=>lift (qhr f (by omega) a.1 σ)
 have hA:=fun σ=>lift (qbd f hb (by omega) a (by omega) (by omega) σ)
 have hA0:=fun σ=>lift (qn4 σ)
 have w1:IntKind.i64.wrap ((a.1.length:Int)+b.1.length)=(a.1.length:Int)+b.1.length:=ql (by omega)
 have w2:IntKind.i64.wrap ((a.1.length:Int)+b.1.length+a.2.1.length)=(a.1.length:Int)+b.1.length+a.2.1.length:=ql (by omega)
 have w3:IntKind.i64.wrap ((a.1.length:Int)+b.1.length+a.2.1.length+b.2.1.length)=(a.1.length:Int)+b.1.length+a.2.1.length+b.2.1.length:=ql (by omega)
 have key:mfE f=0→f.rq.length≤198→addE f a=0→∃g h,addR f a=g∧g.rq.length≤2^20∧cntQ a.1 g.rq=1 ∧
   (∀σ,ev1 21 [mfF g,.str a.1] σ=some (.tup [.str a.2.1,.bool true],σ)) ∧
   (∀σ,ev1 30 [mfF g,.str a.1] σ=some (.tup [mfF h,.bool true],σ)) ∧
   (verQ f.rq a.1=none→(∀σ,ev1 15 [mfF f] σ=some (mfF h,σ))∧∀σ,ev1 17 [mfF h,mfF h] σ=some (.bool true,σ)) ∧
   (a.1≠b.1→∃e x y,(∀σ,ev1 29 [mfF g,rqF b] σ=some (.tup [mfF x,.int .i64 e],σ))∧(∀σ,ev1 29 [mfF f,rqF b] σ=some (.tup [mfF y,.int .i64 e],σ)) ∧
    (e=0→(∀σ,ev1 29 [mfF y,rqF a] σ=some (.tup [mfF x,.int .i64 0],σ))∧∀σ,ev1 17 [mfF x,mfF x] σ=some (.bool true,σ))):=by
  intro k1 k2 k3
  have gl:=qmq f a
  have yl:=qmq f b
  have gB:=qr2 hb (by omega) (r:=a) (by omega) (by omega)
  have yB:=qr2 hb (by omega) (r:=b) (by omega) (by omega)
  have xB:=qr2 gB (by omega) (r:=b) (by omega) (by omega)
  refine⟨_,drpR (addR f a) a.1,rfl,by omega,qrz a,fun σ=>?_,fun σ=>?_,fun hv=>?_,fun hab=>?_⟩
  ·have:=lift (qhr (addR f a) (by omega) a.1 σ)
   rw[qyn] at this;exact this
  ·have:=lift (qg4 (addR f a) gB a.1 σ)
   rw[qg3] at this;exact this
  ·have e:=qu8 (qr4 k1) (qr5 hv)
   rw[e]
   have hcB:=(qrs (qro k1)).B.1
   exact⟨fun σ=>lift (qd8 f hb σ),fun σ=>by have:=lift (qmm (canonM f) (canonM f) hcB hcB σ);rwa [qdr] at this⟩
  ·have e1:addE (addR f a) b=addE f b:=by rw[qi1 (f:=addR f a) (by omega),qi1 (f:=f) (r:=b) (by omega),qwb]
   have e2:addE (addR f b) a=0:=by rw[← k3,qi1 (f:=addR f b) (by omega),qi1 (f:=f) (r:=a) (by omega),qwb]
   have h1:=fun σ=>lift (qbd (addR f a) gB (by omega) b (by omega) (by omega) σ)
   have h2:=fun σ=>lift (qbd f hb (by omega) b (by omega) (by omega) σ)
   have h3:=fun σ=>lift (qbd (addR f b) yB (by omega) a (by omega) (by omega) σ)
   rw[e1] at h1
   rw[e2,if_pos rfl] at h3
   refine⟨_,_,_,h1,h2,fun h0=>?_⟩
   rw[if_pos h0,if_pos h0]
   rw[← qu9 (qr4 k1) hab] at h3
   exact⟨h3,fun σ=>by have:=lift (qmm _ _ xB xB σ);rwa [qdr] at this⟩
 obtain⟨a1,a2,a3⟩:=a
 obtain⟨b1,b2,b3⟩:=b
 simp only at ha1 ha2 hb1 hb2 w1 w2 w3 key
 obtain⟨E,hE⟩:∃e,mfE f=e:=⟨_,rfl⟩
 obtain⟨G,hG⟩:∃e,addE f (a1,a2,a3)=e:=⟨_,rfl⟩
 obtain⟨vo,hvo⟩:∃v,verQ f.rq a1=v:=⟨_,rfl⟩
 rw[hE] at hK key
 rw[hG] at hA key
 rw[hvo] at hV key
 generalize addR f (a1,a2,a3)=g at *
 rw[mfFx] at hFw hK hV hA key ⊢
 rw[rqFx] at hA key ⊢
 rw[rqFx] at key ⊢
 have hfl:f.rq.length=(f.rq.map rqF).length:=by simp
 rw[hfl] at key hL
 obtain⟨LQ,hLQ⟩:∃L,f.rq.map rqF=L:=⟨_,rfl⟩
 obtain⟨LM,hLM⟩:∃L,f.ex.map modA=L:=⟨_,rfl⟩
 obtain⟨LP,hLP⟩:∃L,f.rp.map rpF=L:=⟨_,rfl⟩
 obtain⟨LT,hLT⟩:∃L,f.rt.map rtF=L:=⟨_,rfl⟩
 rw[hLQ,hLM,hLP,hLT] at hFw hK hV hA key ⊢
 rw[hLQ] at hL
 generalize f.m=m at *
 generalize f.g=gg at *
 simp only at hV hA key ⊢
 clear hLQ hLM hLP hLT hb hfl hE hG hvo
 refine qh func6 ntmps6 ?_
 cases bf with
 | false=>simp (maxSteps:=mS) [hF,hFw,results6]
 | true =>
 by_cases hl:(8000:Int)<(a1.length:Int)+b1.length+a2.length+b2.length
 ·simp (maxSteps:=mS) [hF,hFw,w1,w2,w3,hl,results6]
 by_cases hE0:E=0
 ·subst hE0
  by_cases hq:198<LQ.length
  ·simp (maxSteps:=mS) [hF,hFw,w1,w2,w3,hl,hK,hN,hq,results6]
  by_cases hG0:G=0
  ·subst hG0
   rw[if_pos rfl] at hA
   obtain⟨g',h,k0,k1,k2,k3,k4,k5,k6⟩:=key rfl (by omega) rfl
   subst k0
   clear key
   have hgl:g.rq.length=(g.rq.map rqF).length:=by simp
   have hx:∀{i:Nat} {x:Rq},g.rq[i]? = some x→(g.rq.map rqF)[i]? = some (.agg [.str x.1,.str x.2.1,.bool x.2.2]):=fun h=>by rw[List.getElem?_map,h];rfl
   rw[mfFx] at hA k3 k4 k6
   obtain⟨GQ,hGQ⟩:∃L,g.rq.map rqF=L:=⟨_,rfl⟩
   obtain⟨GM,hGM⟩:∃L,g.ex.map modA=L:=⟨_,rfl⟩
   obtain⟨GP,hGP⟩:∃L,g.rp.map rpF=L:=⟨_,rfl⟩
   obtain⟨GT,hGT⟩:∃L,g.rt.map rtF=L:=⟨_,rfl⟩
   rw[hGQ,hGM,hGP,hGT] at hA k3 k4 k6
   rw[hGQ] at hgl hx
   obtain⟨c,hc⟩:∃c,mfF h=.agg c:=⟨_,rfl⟩
   simp only[mfFx] at k4 k5 k6
   generalize h.m=hm at *
   generalize h.g=hg at *
   generalize h.rq.map rqF=HQ at *
   generalize h.ex.map modA=HM at *
   generalize h.rp.map rpF=HP at *
   generalize h.rt.map rtF=HT at *
   clear hc c
   simp (maxSteps:=mS) [-Prod.exists,-Prod.forall,hF,hFw,w1,w2,w3,hl,hK,hN,hq,hV,hA]
   refine qj (I:=fun p:Nat×Nat=>⟨[(3,.lp 3 0),(4,.lp 4 0),(5,.lp 5 0),(10,.bool vo.isSome),(11,.lp 11 0),(13,.int .i64 p.2),(14,.int .i64 p.1)],[(3,[.str m,.str gg,.sl .sh LQ,.sl .sh LM,.sl .sh LP,.sl .sh LT]),(4,[.str a1,.str a2,.bool a3]),(5,[.str b1,.str b2,.bool b3]),(11,[.str g.m,.str g.g,.sl .sh GQ,.sl .sh GM,.sl .sh GP,.sl .sh GT])],σ⟩) (Pr:=fun p=>p.1≤g.rq.length∧p.2=cntQ a1 (g.rq.take p.1)) (μ:=fun p=>g.rq.length-p.1) (a:=(0,0)) (by simp) ⟨by simp,by simp[cntQ]⟩ ?_
   rintro⟨i,n⟩ ⟨hi,hn⟩
   simp only at hi hn ⊢
   by_cases hc:i<g.rq.length
   ·have hcG:i<GQ.length:=by omega
    obtain⟨x,hgx⟩:=getS hc
    have hxG:=hx hgx
    have hs:=qr3 (p:=a1) hgx
    have hnl:=qyr a1 (g.rq.take i)
    rw[List.length_take] at hnl
    have w4:=wr1 i (by omega)
    have w5:=wr1 n (by omega)
    by_cases hxa:x.1=a1
    ·have hxb:(x.1==a1)=true:=by simpa using hxa
     rw[hxb,if_pos rfl] at hs
     simp (maxSteps:=mS) [-getElem?_pos,-Prod.exists,-Prod.forall,hcG,hxG,hxa,w4,w5]
     exact⟨(i+1,n+1),⟨by simp only;omega,by simp only;omega⟩,by simp only;omega,by simp⟩
    ·have hxb:(x.1==a1)=false:=by simpa using hxa
     rw[hxb,if_neg (by simp)] at hs
     simp (maxSteps:=mS) [-getElem?_pos,-Prod.exists,-Prod.forall,hcG,hxG,hxa,w4,w5]
     exact⟨(i+1,n),⟨by simp only;omega,by simp only;omega⟩,by simp only;omega,by simp⟩
   ·have hcG:¬i<GQ.length:=by omega
    have hn1:n=1:=by
     rw[List.take_of_length_le (by omega)] at hn;omega
    subst hn1
    by_cases hab:a1=b1
    ·cases vo with
     | none =>
      obtain⟨q1,q2⟩:=k5 rfl
      simp (maxSteps:=mS) [-qb,hcG,k3,k4]
      refine qk [] _ (k:=?_)
      repeat (first|refine qd _ (hs:=by simp (maxSteps:=mS) [q1,q2,k3,k4];exact rfl) (k:=?_)|refine qe _ (k:=?_))
      refine qc ?_
      simp (maxSteps:=mS) [hab,results6]
     | some v =>
      simp (maxSteps:=mS) [-qb,hcG,k3,k4]
      refine qk [] _ (k:=?_)
      repeat (first|refine qd _ (hs:=by simp (maxSteps:=mS) [k3,k4];exact rfl) (k:=?_)|refine qe _ (k:=?_))
      refine qc ?_
      simp (maxSteps:=mS) [hab,results6]
    ·obtain⟨e,x,y,r1,r2,r3⟩:=k6 hab
     by_cases he:e=0
     ·subst he
      obtain⟨r4,r5⟩:=r3 rfl
      cases vo with
      | none =>
       obtain⟨q1,q2⟩:=k5 rfl
       simp (maxSteps:=mS) [-qb,hcG,k3,k4]
       refine qk [] _ (k:=?_)
       repeat (first|refine qd _ (hs:=by simp (maxSteps:=mS) [q1,q2,k3,k4];exact rfl) (k:=?_)|refine qe _ (k:=?_))
       refine qc ?_
       simp (maxSteps:=mS) [hab,r1,r2,r4,r5,hN,results6]
      | some v =>
       simp (maxSteps:=mS) [-qb,hcG,k3,k4]
       refine qk [] _ (k:=?_)
       repeat (first|refine qd _ (hs:=by simp (maxSteps:=mS) [k3,k4];exact rfl) (k:=?_)|refine qe _ (k:=?_))
       refine qc ?_
       simp (maxSteps:=mS) [hab,r1,r2,r4,r5,hN,results6]
     ·cases vo with
      | none =>
       obtain⟨q1,q2⟩:=k5 rfl
       simp (maxSteps:=mS) [-qb,hcG,k3,k4]
       refine qk [] _ (k:=?_)
       repeat (first|refine qd _ (hs:=by simp (maxSteps:=mS) [q1,q2,k3,k4];exact rfl) (k:=?_)|refine qe _ (k:=?_))
       refine qc ?_
       simp (maxSteps:=mS) [hab,r1,r2,he,hN,results6]
      | some v =>
       simp (maxSteps:=mS) [-qb,hcG,k3,k4]
       refine qk [] _ (k:=?_)
       repeat (first|refine qd _ (hs:=by simp (maxSteps:=mS) [k3,k4];exact rfl) (k:=?_)|refine qe _ (k:=?_))
       refine qc ?_
       simp (maxSteps:=mS) [hab,r1,r2,he,hN,results6]
  ·rw[if_neg hG0] at hA
   simp only[mfFx,mf0,List.map_nil] at hA
   simp (maxSteps:=mS) [hF,hFw,w1,w2,w3,hl,hK,hN,hq,hV,hA,hG0,hA0,results6]
 ·simp (maxSteps:=mS) [hF,hFw,w1,w2,w3,hl,hK,hN,hE0,results6]
theorem maddLaw (f:MfT) (a b:List UInt8×List UInt8×Bool) (hs:MfSm (mfO f)) (ha:a.1.length+a.2.1.length≤1048576) (hb:b.1.length+b.2.1.length≤1048576) (σ:List (List AV)):ev1 6 [mfF (mfO f),rqF a,rqF b] σ=some (.bool true,σ) :=
 qva (mfO f) hs.B.1 (by have:=hs.lq;omega) a b (by omega) (by omega) (by omega) (by omega) σ
end Go.Proofs.Tryz.Ai
end
