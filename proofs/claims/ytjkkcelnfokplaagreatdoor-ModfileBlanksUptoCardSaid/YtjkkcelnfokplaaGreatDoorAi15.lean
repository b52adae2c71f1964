/- Part 15 of a proof: a Go function is evaluated on abstract values (texts SoK7 .. SoK7); no conditions beyond those of each theorem. -/
import Derived.Test.YtjkkcelnfokplaaGreatDoorAi14
set_option linter.all false
set_option linter.unusedVariables false
set_option linter.unusedSimpArgs false
set_option linter.unnecessarySimpa false
section
namespace Go.Proofs.Tryz.Ai
open Go Go.AI Go.Proofs
set_option maxHeartbeats 8000000
set_option linter.unusedVariables false
theorem qhm (κ:K) (g:Nat) (σ:List (List AV)):ev κ.d.fI [.sl .sh [],.int .i64 0,.int .i64 0,.fn g []] σ=some (.tup [],σ):=by
 cases κ
 all_goals dsimp only[K.d]
 refine qf rfl Tryz.func185 rfl (by simp[Tryz.ntmps185]) (by kernel_rfl) (by kernel_rfl) ?_
 rotate_left
 refine qf rfl Tryz.func197 rfl (by simp[Tryz.ntmps197]) (by kernel_rfl) (by kernel_rfl) ?_
 rotate_left
 refine qf rfl Tryz.func188 rfl (by simp[Tryz.ntmps188]) (by kernel_rfl) (by kernel_rfl) ?_
 rotate_left
 refine qf rfl Tryz.func259 rfl (by simp[Tryz.ntmps259]) (by kernel_rfl) (by kernel_rfl) ?_
 rotate_left
 all_goals
  have w:IntKind.i64.wrap 1=1:=by decide
  simp (maxSteps:=4000000) [w]
  refine ql (I:=fun q:Nat=>⟨[(0,.sl .sh []),(1,.int .i64 0),(2,.int .i64 0),(3,.fn g []),(8,.int .i64 1)],[],σ⟩) (Pr:=fun q=>True) (μ:=fun q=>q) (a:=0) (by simp) (by simp) ?_
  intro q hq
  simp (maxSteps:=4000000) []
theorem qmn (κ:K) (g:Nat) (σ:List (List AV)):ev κ.d.fT [.sl .sh [],.int .i64 0,.fn g []] σ=some (.tup [],σ):=by
 have hI:=qhm κ g
 cases κ
 all_goals dsimp only[K.d] at hI ⊢
 refine qf rfl Tryz.func124 rfl (by simp[Tryz.ntmps124]) (by kernel_rfl) (by kernel_rfl) ?_
 rotate_left
 refine qf rfl Tryz.func130 rfl (by simp[Tryz.ntmps130]) (by kernel_rfl) (by kernel_rfl) ?_
 rotate_left
 refine qf rfl Tryz.func126 rfl (by simp[Tryz.ntmps126]) (by kernel_rfl) (by kernel_rfl) ?_
 rotate_left
 refine qf rfl Tryz.func236 rfl (by simp[Tryz.ntmps236]) (by kernel_rfl) (by kernel_rfl) ?_
 rotate_left
 all_goals
  simp (maxSteps:=4000000) []
  refine ql (I:=fun q:Nat=>⟨[(0,.sl .sh []),(1,.int .i64 0),(2,.fn g []),(6,.int .i64 20),(7,.int .i64 0),(8,.int .i64 20)],[],σ⟩) (Pr:=fun q=>True) (μ:=fun q=>q) (a:=0) (by simp) (by simp) ?_
  intro q hq
  simp (maxSteps:=4000000) [hI]
  refine ql (I:=fun q:Nat=>⟨[(0,.sl .sh []),(1,.int .i64 0),(2,.fn g []),(6,.int .i64 20)],[],σ⟩) (Pr:=fun q=>True) (μ:=fun q=>q) (a:=0) (by simp) (by simp) ?_
  intro q hq
  simp (maxSteps:=4000000) [Tryz.results124,Tryz.results130,Tryz.results126,Tryz.results236]
theorem qbf (κ:K) (g:Nat) (σ:List (List AV)):ev κ.d.fA [.sl .sh [],.fn g []] σ=some (.tup [],σ):=by
 have h1:=qmn κ g
 cases κ
 all_goals dsimp only[K.d] at h1 ⊢
 refine qf rfl Tryz.func57 rfl (by simp[Tryz.ntmps57]) (by kernel_rfl) (by kernel_rfl) ?_
 rotate_left
 refine qf rfl Tryz.func64 rfl (by simp[Tryz.ntmps64]) (by kernel_rfl) (by kernel_rfl) ?_
 rotate_left
 refine qf rfl Tryz.func60 rfl (by simp[Tryz.ntmps60]) (by kernel_rfl) (by kernel_rfl) ?_
 rotate_left
 refine qf rfl Tryz.func184 rfl (by simp[Tryz.ntmps184]) (by kernel_rfl) (by kernel_rfl) ?_
 rotate_left
 all_goals simp (maxSteps:=4000000) [h1,Tryz.results57,Tryz.results64,Tryz.results60,Tryz.results184]
theorem qe8 {α:Type} {E:α→List AV} {F:α→AV} (hF:∀x,F x=.agg (E x)) (l:List α):rowE E l=flat (l.map F):=by
 induction l with
 | nil=>rfl
 | cons a l ih=>unfold rowE at *;rw[List.flatMap_cons,ih,List.map_cons,flat_cons,hF];rfl
theorem qf1 {α:Type} {E:α→List AV} {F:α→AV} {sz:Nat} (hF:∀x,F x=.agg (E x)) (hl:∀x,(E x).length=sz) (hd:∀x,(E x).map dem=E x) (h0:0<sz) (l:List α):els2 true sz sz (flat (l.map F)) 0 l.length=some (l.map F):=by
 rw[qiz,if_pos ⟨rfl,h0,by rw[← qe8 hF,qdz hl];omega⟩]
 congr 1
 apply List.ext_getElem?
 intro i
 by_cases hi:i<l.length
 ·obtain⟨x,hx⟩:∃x,l[i]? = some x:=⟨_,List.getElem?_eq_getElem hi⟩
  have:=qi8 (E:=E) (sz:=sz) hl hd hx
  rw[List.getElem?_map,List.getElem?_range hi,List.getElem?_map,hx,← qe8 hF]
  simp only[Option.map_some,Nat.zero_add,this,hF]
 ·rw[List.getElem?_eq_none (by simpa using Nat.le_of_not_lt hi),List.getElem?_eq_none (by simpa using Nat.le_of_not_lt hi)]
theorem kkQ:KOk .q esQ 41 3:=⟨fun _=>rfl,rfl,rfl⟩
abbrev CmpOkQ (g:Nat) (c:Rq→Rq→Int) (Q:Rq→Prop):Prop:=CmpOkK .q esQ g c Q
theorem qhn {g:Nat} {c:Rq→Rq→Int} {Q:Rq→Prop} (h:CmpOkQ g c Q) (b:Nat) (σ:List (List AV)) (L:List (Rq)) (n:Nat) (hL:∀x∈L,Q x) (hn:L.length=n) (hN:n≤2^30) (hb:b<σ.length) :
  ev 57 [.ms 41 3 b 0 n,.fn g []] (σ.set b (rowE esQ L))=some (.tup [],σ.set b (rowE esQ (isrt c L))):=qbk kkQ h b σ L n hL hn hN hb
theorem qgz (g:Nat) (σ:List (List AV)):ev 57 [.sl .sh [],.fn g []] σ=some (.tup [],σ):=qbf .q g σ
theorem kkT:KOk .t esT 50 2:=⟨fun _=>rfl,rfl,rfl⟩
abbrev CmpOkT (g:Nat) (c:Rt→Rt→Int) (Q:Rt→Prop):Prop:=CmpOkK .t esT g c Q
theorem qho {g:Nat} {c:Rt→Rt→Int} {Q:Rt→Prop} (h:CmpOkT g c Q) (b:Nat) (σ:List (List AV)) (L:List (Rt)) (n:Nat) (hL:∀x∈L,Q x) (hn:L.length=n) (hN:n≤2^30) (hb:b<σ.length) :
  ev 64 [.ms 50 2 b 0 n,.fn g []] (σ.set b (rowE esT L))=some (.tup [],σ.set b (rowE esT (isrt c L))):=qbk kkT h b σ L n hL hn hN hb
theorem qg0 (g:Nat) (σ:List (List AV)):ev 64 [.sl .sh [],.fn g []] σ=some (.tup [],σ):=qbf .t g σ
theorem kkP:KOk .p esP 54 4:=⟨fun _=>rfl,rfl,rfl⟩
abbrev CmpOkP (g:Nat) (c:Rp→Rp→Int) (Q:Rp→Prop):Prop:=CmpOkK .p esP g c Q
theorem qhp {g:Nat} {c:Rp→Rp→Int} {Q:Rp→Prop} (h:CmpOkP g c Q) (b:Nat) (σ:List (List AV)) (L:List (Rp)) (n:Nat) (hL:∀x∈L,Q x) (hn:L.length=n) (hN:n≤2^30) (hb:b<σ.length) :
  ev 60 [.ms 54 4 b 0 n,.fn g []] (σ.set b (rowE esP L))=some (.tup [],σ.set b (rowE esP (isrt c L))):=qbk kkP h b σ L n hL hn hN hb
theorem qg1 (g:Nat) (σ:List (List AV)):ev 60 [.sl .sh [],.fn g []] σ=some (.tup [],σ):=qbf .p g σ
theorem kkM:KOk .m esM 52 2:=⟨fun _=>rfl,rfl,rfl⟩
abbrev CmpOkM (g:Nat) (c:Mo→Mo→Int) (Q:Mo→Prop):Prop:=CmpOkK .m esM g c Q
theorem qhq {g:Nat} {c:Mo→Mo→Int} {Q:Mo→Prop} (h:CmpOkM g c Q) (b:Nat) (σ:List (List AV)) (L:List (Mo)) (n:Nat) (hL:∀x∈L,Q x) (hn:L.length=n) (hN:n≤2^30) (hb:b<σ.length) :
  ev 184 [.ms 52 2 b 0 n,.fn g []] (σ.set b (rowE esM L))=some (.tup [],σ.set b (rowE esM (isrt c L))):=qbk kkM h b σ L n hL hn hN hb
theorem qg2 (g:Nat) (σ:List (List AV)):ev 184 [.sl .sh [],.fn g []] σ=some (.tup [],σ):=qbf .m g σ
end Go.Proofs.Tryz.Ai
end
