/- Part 15 of a proof: Go functions are evaluated on abstract values; no conditions beyond those of each theorem. -/
import Derived.Test.YtjkkcelnfokplaaGreatDoorFi14
set_option linter.all false
set_option maxHeartbeats 16000000
set_option maxRecDepth 4000
section
namespace Go.Proofs.Tryz.Ai
open Go Go.AI Go.Proofs
theorem qhi (κ:K) (g:Nat) (σ:List (List AV)):ev κ.d.fI [.sl .sh [],.int .i64 0,.int .i64 0,.fn g []] σ=some (.tup [],σ):=by
 cases κ
 all_goals dsimp only[K.d]
 refine qk func185 ntmps185 ?_
 rotate_left
 refine qk func197 ntmps197 ?_
 rotate_left
 refine qk func188 ntmps188 ?_
 rotate_left
 refine qk func259 ntmps259 ?_
 rotate_left
 all_goals
  have w:IntKind.i64.wrap 1=1:=by decide
  simp (maxSteps:=mS) [w]
  refine qf (I:=fun q:Nat=>⟨[(0,.sl .sh []),(1,.int .i64 0),(2,.int .i64 0),(3,.fn g []),(8,.int .i64 1)],[],σ⟩) (Pr:=fun q=>True) (μ:=fun q=>q) (a:=0) (by simp) (by simp) ?_
  intro q hq
  simp (maxSteps:=mS) []
theorem qmb (κ:K) (g:Nat) (σ:List (List AV)):ev κ.d.fT [.sl .sh [],.int .i64 0,.fn g []] σ=some (.tup [],σ):=by
 have hI:=qhi κ g
 cases κ
 all_goals dsimp only[K.d] at hI ⊢
 refine qk func124 ntmps124 ?_
 rotate_left
 refine qk func130 ntmps130 ?_
 rotate_left
 refine qk func126 ntmps126 ?_
 rotate_left
 refine qk func236 ntmps236 ?_
 rotate_left
 all_goals
  simp (maxSteps:=mS) []
  refine qf (I:=fun q:Nat=>⟨[(0,.sl .sh []),(1,.int .i64 0),(2,.fn g []),(6,.int .i64 20),(7,.int .i64 0),(8,.int .i64 20)],[],σ⟩) (Pr:=fun q=>True) (μ:=fun q=>q) (a:=0) (by simp) (by simp) ?_
  intro q hq
  simp (maxSteps:=mS) [hI]
  refine qf (I:=fun q:Nat=>⟨[(0,.sl .sh []),(1,.int .i64 0),(2,.fn g []),(6,.int .i64 20)],[],σ⟩) (Pr:=fun q=>True) (μ:=fun q=>q) (a:=0) (by simp) (by simp) ?_
  intro q hq
  simp (maxSteps:=mS) [results124,results130,results126,results236]
theorem qa6 (κ:K) (g:Nat) (σ:List (List AV)):ev κ.d.fA [.sl .sh [],.fn g []] σ=some (.tup [],σ):=by
 have h1:=qmb κ g
 cases κ
 all_goals dsimp only[K.d] at h1 ⊢
 refine qk func57 ntmps57 ?_
 rotate_left
 refine qk func64 ntmps64 ?_
 rotate_left
 refine qk func60 ntmps60 ?_
 rotate_left
 refine qk func184 ntmps184 ?_
 rotate_left
 all_goals simp (maxSteps:=mS) [h1,results57,results64,results60,results184]
theorem qe6 {α:Type} {E:α→List AV} {F:α→AV} (hF:∀x,F x=.agg (E x)) (l:List α):rowE E l=flat (l.map F):=by
 induction l with
 | nil=>rfl
 | cons a l ih=>unfold rowE at *;rw[List.flatMap_cons,ih,List.map_cons,flat_cons,hF];rfl
theorem qfv {α:Type} {E:α→List AV} {F:α→AV} {sz:Nat} (hF:∀x,F x=.agg (E x)) (hl:∀x,(E x).length=sz) (hd:∀x,(E x).map dem=E x) (h0:0<sz) (l:List α):els2 true sz sz (flat (l.map F)) 0 l.length=some (l.map F):=by
 rw[qne,if_pos ⟨rfl,h0,by rw[← qe6 hF,qei hl];omega⟩]
 congr 1
 apply List.ext_getElem?
 intro i
 by_cases hi:i<l.length
 ·obtain⟨x,hx⟩:=getS hi
  have:=qnk (E:=E) (sz:=sz) hl hd hx
  rw[List.getElem?_map,List.getElem?_range hi,List.getElem?_map,hx,← qe6 hF]
  simp only[Option.map_some,Nat.zero_add,this,hF]
 ·rw[List.getElem?_eq_none (by simpa using Nat.le_of_not_lt hi),List.getElem?_eq_none (by simpa using Nat.le_of_not_lt hi)]
theorem kkQ:KOk .q esQ 41 3:=⟨fun _=>rfl,rfl,rfl⟩
abbrev CmpOkQ (g:Nat) (c:Rq→Rq→Int) (Q:Rq→Prop):Prop:=CmpOkK .q esQ g c Q
theorem qhj {g:Nat} {c:Rq→Rq→Int} {Q:Rq→Prop} (h:CmpOkQ g c Q) (b:Nat) (σ:List (List AV)) (L:List (Rq)) (n:Nat) (hL:∀x∈L,Q x) (hn:L.length=n) (hN:n≤2^30) (hb:b<σ.length) :
  ev 57 [.ms 41 3 b 0 n,.fn g []] (σ.set b (rowE esQ L))=some (.tup [],σ.set b (rowE esQ (isrt c L))):=qa9 kkQ h b σ L n hL hn hN hb
theorem qdd (g:Nat) (σ:List (List AV)):ev 57 [.sl .sh [],.fn g []] σ=some (.tup [],σ):=qa6 .q g σ
theorem kkT:KOk .t esT 50 2:=⟨fun _=>rfl,rfl,rfl⟩
abbrev CmpOkT (g:Nat) (c:Rt→Rt→Int) (Q:Rt→Prop):Prop:=CmpOkK .t esT g c Q
theorem qhk {g:Nat} {c:Rt→Rt→Int} {Q:Rt→Prop} (h:CmpOkT g c Q) (b:Nat) (σ:List (List AV)) (L:List (Rt)) (n:Nat) (hL:∀x∈L,Q x) (hn:L.length=n) (hN:n≤2^30) (hb:b<σ.length) :
  ev 64 [.ms 50 2 b 0 n,.fn g []] (σ.set b (rowE esT L))=some (.tup [],σ.set b (rowE esT (isrt c L))):=qa9 kkT h b σ L n hL hn hN hb
theorem qde (g:Nat) (σ:List (List AV)):ev 64 [.sl .sh [],.fn g []] σ=some (.tup [],σ):=qa6 .t g σ
theorem kkP:KOk .p esP 54 4:=⟨fun _=>rfl,rfl,rfl⟩
abbrev CmpOkP (g:Nat) (c:Rp→Rp→Int) (Q:Rp→Prop):Prop:=CmpOkK .p esP g c Q
theorem qhl {g:Nat} {c:Rp→Rp→Int} {Q:Rp→Prop} (h:CmpOkP g c Q) (b:Nat) (σ:List (List AV)) (L:List (Rp)) (n:Nat) (hL:∀x∈L,Q x) (hn:L.length=n) (hN:n≤2^30) (hb:b<σ.length) :
  ev 60 [.ms 54 4 b 0 n,.fn g []] (σ.set b (rowE esP L))=some (.tup [],σ.set b (rowE esP (isrt c L))):=qa9 kkP h b σ L n hL hn hN hb
theorem qdf (g:Nat) (σ:List (List AV)):ev 60 [.sl .sh [],.fn g []] σ=some (.tup [],σ):=qa6 .p g σ
theorem kkM:KOk .m esM 52 2:=⟨fun _=>rfl,rfl,rfl⟩
abbrev CmpOkM (g:Nat) (c:Mo→Mo→Int) (Q:Mo→Prop):Prop:=CmpOkK .m esM g c Q
theorem qd1 {g:Nat} {c:Mo→Mo→Int} {Q:Mo→Prop} (h:CmpOkM g c Q) (b:Nat) (σ:List (List AV)) (L:List (Mo)) (n:Nat) (hL:∀x∈L,Q x) (hn:L.length=n) (hN:n≤2^30) (hb:b<σ.length) :
  ev 184 [.ms 52 2 b 0 n,.fn g []] (σ.set b (rowE esM L))=some (.tup [],σ.set b (rowE esM (isrt c L))):=qa9 kkM h b σ L n hL hn hN hb
theorem qdg (g:Nat) (σ:List (List AV)):ev 184 [.sl .sh [],.fn g []] σ=some (.tup [],σ):=qa6 .m g σ
end Go.Proofs.Tryz.Ai
end
