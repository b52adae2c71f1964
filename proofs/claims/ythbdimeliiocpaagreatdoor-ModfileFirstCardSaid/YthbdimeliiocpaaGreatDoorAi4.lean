/- Part 4 of a proof: a Go function is evaluated on abstract values (texts Bld .. D6); no conditions beyond those of each theorem. -/
import Derived.Test.YthbdimeliiocpaaGreatDoorAi3
import Derived.Test.YthbdimeliiocpaaGreatDoorProg
import Derived.Lib.Strings
import Derived.Lib.Slices
import Derived.Lib.Walk
import Derived.Lib.Builder
import Derived.Lib.UnsafeStr
import Derived.Lib.MakeNoZero
import Derived.WalkKit
import Derived.Laws.Externs
import Derived.RegionTactic
import Derived.BigRegion
import Derived.Laws.CopyRow
import Derived.Lib.Bytealg
import Derived.Shelf.Strconv.Itoa3
import Derived.Lib.AppendIntMem
import Derived.Shelf.Strings.Search2
import Derived.Shelf.Strconv.AtoiAll
import Derived.Shelf.Strings.LastIndexAll
import Derived.Shelf.Strings.Cut
import Derived.Shelf.Strings.Split
import Derived.Shelf.Small.Wraps
import Derived.Shelf.Strings.Prefix
import Derived.Shelf.Strings.Trim
import Derived.Shelf.Strings.SlTrimAscii
import Derived.Shelf.Strings.Search3
import Derived.Shelf.Vars
import Derived.Lib.SmallJoins
import Derived.Lib.SplitLaws
import Derived.Stop.LaidErr
import Derived.KernelRfl
set_option linter.all false
set_option linter.unusedVariables false
set_option linter.unusedSimpArgs false
set_option linter.unnecessarySimpa false
section
namespace Go.Proofs.Tryz.Ai
open Go Go.AI Go.RowKit Go.Proofs
set_option maxHeartbeats 1000000 in
set_option maxRecDepth 100000 in
theorem qf6 (b:Nat) (w:World) (h0:w.cell? ⟨b,0,none⟩=some (.pointer (some ⟨b,0,none⟩))) :
  Calls Tryz.prog 115 #[.pointer (some ⟨b,0,none⟩)] w fun e w'=>e=.returned (.tuple #[])∧w'=w:=by
 obtain⟨j,hj,_⟩:∃j,Tryz.prog.info? 87=some j∧j.size=2:=Option.map_eq_some_iff.1 (by kernel_rfl)
 go_enter Tryz.func115,Tryz.ntmps115
 go_wp2
 rw[Lib.run_neq_ptr_same w _ (te:=87) (by kernel_rfl) hj]
 go_wp2
 go_end0
 exact⟨rfl,rfl⟩
set_option maxHeartbeats 1000000 in
set_option maxRecDepth 100000 in
theorem qfq (b:Nat) (w:World) (h0:w.cell? ⟨b,0,none⟩=some (.pointer none)) (hsh:w.shape? b=some (87,2)) (hfz:w.frozen? ⟨b,0,none⟩=false) :
  Calls Tryz.prog 115 #[.pointer (some ⟨b,0,none⟩)] w fun e w'=>e=.returned (.tuple #[])∧w'=w.setCell ⟨b,0,none⟩ (.pointer (some ⟨b,0,none⟩)):=by
 obtain⟨j,hj,hjs⟩:∃j,Tryz.prog.info? 87=some j∧j.size=2:=Option.map_eq_some_iff.1 (by kernel_rfl)
 go_enter Tryz.func115,Tryz.ntmps115
 go_wp2
 rw[Lib.run_to_unsafe (t:=87) w ⟨b,0,none⟩ (by kernel_rfl) (by kernel_rfl) hj (by rw[hjs];decide) hsh (Nat.zero_lt_succ 1)]
 simp only[Result.andThen]
 rw[Oper.upon_value]
 go_wp2
 rw[run_callFunc_extern Tryz.func172 (by kernel_rfl) (by kernel_rfl) (by kernel_rfl) (e:=Extern.AbiNoEscape.same) (by kernel_rfl)]
 rw[Lib.run_noEscape]
 simp only[Result.andThen]
 rw[Oper.upon_value]
 go_wp2
 rw[Lib.run_from_unsafe (u:=87) w ⟨b,0,none⟩ (by kernel_rfl) (by kernel_rfl) hj hsh (by kernel_rfl)]
 simp only[Result.andThen]
 rw[Oper.upon_value]
 go_wp2
 go_end0
 exact⟨rfl,rfl⟩
def SB:TypeId:=87
def U8:TypeId:=5
set_option maxHeartbeats 2000000 in
set_option maxRecDepth 1000000 in
theorem qke (b g cap n:Nat) (p:Value) (cur:Array Value) (l:List UInt8) (w:World) (h0:l≠[]) (hn:l.length=n) (hbk:Blk w b #[p,.slice (some ⟨g,0,none⟩) n cap] SB)
  (hg:Blk w g cur U8) (hnc:n≤cap) (hcm:cap≤maxLen) (hcs:cur.size=cap) (hx:∀(j:Nat) (x:UInt8),l[j]? = some x→cur[j]? = some (.int .u8 x.toNat)) :
  Calls Tryz.prog 48 #[.pointer (some ⟨b,0,none⟩)] w fun e w'=>e=.returned (.string ⟨l.toArray⟩)∧w'=w.drew.freeze ⟨g,0,none⟩ n:=by
 obtain⟨fbk,hbk,okbk⟩:=hbk
 obtain⟨fg,hg,okg⟩:=hg
 subst hn
 have hl0:l.length≠0:=by simpa using h0
 have c1:w.drew.cell? ⟨b,1,none⟩=some (.slice (some ⟨g,0,none⟩) l.length cap):=by
  have:w.drew.heap[b]? = some (.cells #[p,.slice (some ⟨g,0,none⟩) l.length cap] SB fbk):=hbk
  rw[Lib.cell_of_heap this];rfl
 have hSD:(Builtin.unsafeSliceData_ #[85] 179 #[.slice (some ⟨g,0,none⟩) l.length cap]).run Tryz.prog w.drew=.ok (.pointer (some ⟨g,0,none⟩)) w.drew :=
  Lib.run_unsafeSliceData_row _ _ _ _ _ _ (by omega)
 have hUS:(Builtin.unsafeString_ #[179,3] 9 #[.pointer (some ⟨g,0,none⟩),.int .i64 l.length]).run Tryz.prog w.drew=.ok (.string ⟨l.toArray⟩) (w.drew.freeze ⟨g,0,none⟩ l.length):=by
  refine Lib.run_unsafeString_row w.drew 179 3 9 5 (by kernel_rfl) (by kernel_rfl) g cur.size (by have hg':w.drew.heap[g]? = some (.cells cur U8 fg):=hg;simp[World.shape?,hg',U8]) l h0 (by omega) (by unfold maxLen at hcm;omega) ?_
  intro j x hj
  have:=hx j x hj
  have hg':w.drew.heap[g]? = some (.cells cur U8 fg):=hg
  rw[show (⟨g,0,none⟩:Addr).add j=⟨g,j,none⟩ from by unfold Addr.add;split<;>simp_all,Lib.cell_of_heap hg'];exact this
 go_enter Tryz.func48,Tryz.ntmps48
 go_wp2
 go_region
 all_goals (go_wp2;go_ret;exact⟨rfl,rfl⟩)
set_option maxHeartbeats 2000000 in
set_option maxRecDepth 1000000 in
theorem qg7 (b:Nat) (p:Value) (w:World) (hbk:Blk w b #[p,.slice none 0 0] SB) :
  Calls Tryz.prog 48 #[.pointer (some ⟨b,0,none⟩)] w fun e w'=>e=.returned (.string ⟨#[]⟩)∧w'=w.drew:=by
 obtain⟨fbk,hbk,okbk⟩:=hbk
 have hUS:∀(W:World) (q:Option Addr),(Builtin.unsafeString_ #[179,3] 9 #[.pointer q,.int .i64 0]).run Tryz.prog W=.ok (.string .empty) W:=fun W q=>Lib.run_unsafeString_none W _ _ _ q
 have c1:w.drew.cell? ⟨b,1,none⟩=some (.slice none 0 0):=by
  have:w.drew.heap[b]? = some (.cells #[p,.slice none 0 0] SB fbk):=hbk
  rw[Lib.cell_of_heap this];rfl
 have hSD:∀W:World,(Builtin.unsafeSliceData_ #[85] 179 #[.slice none 0 0]).run Tryz.prog W=.ok (.pointer none) W:=fun W=>rfl
 go_enter Tryz.func48,Tryz.ntmps48
 go_wp2
 go_region
 all_goals (go_wp2;go_ret;exact⟨rfl,rfl⟩)
set_option maxHeartbeats 2000000 in
set_option maxRecDepth 1000000 in
theorem qkf (b g cap:Nat) (p:Value) (w:World) (hc0:cap≠0) (hbk:Blk w b #[p,.slice (some ⟨g,0,none⟩) 0 cap] SB) :
  Calls Tryz.prog 48 #[.pointer (some ⟨b,0,none⟩)] w fun e w'=>e=.returned (.string ⟨#[]⟩)∧w'=w.drew:=by
 obtain⟨fbk,hbk,okbk⟩:=hbk
 have hUS:∀(W:World) (q:Option Addr),(Builtin.unsafeString_ #[179,3] 9 #[.pointer q,.int .i64 0]).run Tryz.prog W=.ok (.string .empty) W:=fun W q=>Lib.run_unsafeString_none W _ _ _ q
 have c1:w.drew.cell? ⟨b,1,none⟩=some (.slice (some ⟨g,0,none⟩) 0 cap):=by
  have:w.drew.heap[b]? = some (.cells #[p,.slice (some ⟨g,0,none⟩) 0 cap] SB fbk):=hbk
  rw[Lib.cell_of_heap this];rfl
 have hSD:(Builtin.unsafeSliceData_ #[85] 179 #[.slice (some ⟨g,0,none⟩) 0 cap]).run Tryz.prog w.drew=.ok (.pointer (some ⟨g,0,none⟩)) w.drew :=
  Lib.run_unsafeSliceData_row _ _ _ _ _ _ hc0
 clear hc0
 go_enter Tryz.func48,Tryz.ntmps48
 go_wp2
 go_region
 all_goals (go_wp2;go_ret;exact⟨rfl,rfl⟩)
set_option maxHeartbeats 2000000 in
set_option maxRecDepth 1000000 in
theorem qhs (b g:Nat) (p:Value) (cur:Array Value) (w:World) (hbk:Blk w b #[p,.slice (some ⟨g,0,none⟩) 0 0] SB) (hg:Blk w g cur U8) :
  Calls Tryz.prog 48 #[.pointer (some ⟨b,0,none⟩)] w fun e w'=>e=.returned (.string ⟨#[]⟩)∧w'=(w.alloc (.view ⟨g,0,none⟩ U8)).drew:=by
 obtain⟨fbk,hbk,okbk⟩:=hbk
 obtain⟨fg,hg,okg⟩:=hg
 have hUS:∀(W:World) (q:Option Addr),(Builtin.unsafeString_ #[179,3] 9 #[.pointer q,.int .i64 0]).run Tryz.prog W=.ok (.string .empty) W:=fun W q=>Lib.run_unsafeString_none W _ _ _ q
 have hlt:b<w.heap.size:=by
  rcases Nat.lt_or_ge b w.heap.size with h'|h'
  ·exact h'
  ·simp[Array.getElem?_eq_none h'] at hbk
 have c1:w.drew.cell? ⟨b,1,none⟩=some (.slice (some ⟨g,0,none⟩) 0 0):=by
  have:w.drew.heap[b]? = some (.cells #[p,.slice (some ⟨g,0,none⟩) 0 0] SB fbk):=hbk
  rw[Lib.cell_of_heap this];rfl
 have hSD:(Builtin.unsafeSliceData_ #[85] 179 #[.slice (some ⟨g,0,none⟩) 0 0]).run Tryz.prog w.drew=.ok (.pointer (some ⟨w.drew.heap.size,0,none⟩)) (w.drew.alloc (.view ⟨g,0,none⟩ 5)) :=
  Lib.run_unsafeSliceData_zero w.drew _ _ 5 (by kernel_rfl) ⟨g,0,none⟩ 0 (5,cur.size) (by have hg':w.drew.heap[g]? = some (.cells cur U8 fg):=hg;simp[World.shape?,hg',U8])
 have c2:(w.drew.alloc (.view ⟨g,0,none⟩ 5)).cell? ⟨b,1,none⟩=some (.slice (some ⟨g,0,none⟩) 0 0):=by
  have:(w.drew.alloc (.view ⟨g,0,none⟩ 5)).heap[b]? = _:=(Lib.alloc_old w.drew _ b hlt).trans hbk
  rw[Lib.cell_of_heap this];rfl
 have c3:(w.alloc (.view ⟨g,0,none⟩ 5)).drew.cell? ⟨b,1,none⟩=some (.slice (some ⟨g,0,none⟩) 0 0):=c2
 have c0:w.cell? ⟨b,1,none⟩=some (.slice (some ⟨g,0,none⟩) 0 0):=c1
 clear hlt
 go_enter Tryz.func48,Tryz.ntmps48
 go_wp2
 go_region
 all_goals (go_wp2;go_ret;exact⟨rfl,rfl⟩)
end Go.Proofs.Tryz.Ai
end
section
namespace Go.Proofs.Tryz.Ai
open Go Go.AI Go.RowKit Go.Proofs
set_option linter.unusedVariables false
def copyCheckT:List AV→List (List AV)→Option (AV×List (List AV))
 | [.gp b 0 (some (t,2))],s=>if t=SB then (match s[b]? with
   | some [.nilp,u]=>some (.tup [],s.set b [.gp b 0 (some (SB,2)),u])
   | some [.gp b' 0 _,u]=>if b'=b then some (.tup [],s) else none
   | _=>none) else none
 | _,_=>none
theorem qea {B:Nat} {T0:Nat→Prop} {μ0:Gh} {w0:World} {N:Nat} {μ:Gh} {lx:Nat→Option Nat} {w:World} {vs:Array Value} {x:AV} {s:List (List AV)} (hsz:vs.size=1):∃v,vs=#[v]∧vs.getD 0 undef=v:=by
 obtain⟨l⟩:=vs
 match l,hsz with
 | [v],_=>exact⟨v,rfl,rfl⟩
theorem qi9 {B:Nat} {W0:World} {xs:List AV} {s:List (List AV)} {r:AV} {s':List (List AV)} (e:copyCheckT xs s=some (r,s')):ACalls Tryz.prog B W0 115 xs s r s':=by
 unfold copyCheckT at e
 split at e
 ·rename_i b tt
  split at e
  ·rename_i ht
   subst ht
   intro T μ w vs hsz hW hs
   split at e
   ·rename_i u hb
    simp only[Option.some.injEq,Prod.mk.injEq] at e
    obtain⟨rfl,rfl⟩:=e
    obtain⟨blk,cur,ty,h1,h2,h3,h4,h5,h6,h7⟩:=hs.gp_open (i:=0) (b:=b) (off:=0) (sh:=some (SB,2)) (by simp[params,look]) hb (by simp)
    have h8:=h7 _ rfl
    simp only[Prod.mk.injEq] at h8
    obtain⟨rfl,h8⟩:=h8
    obtain⟨v,rfl,hv⟩:=qea (B:=B) (T0:=T) (μ0:=μ) (w0:=w) (N:=1) (μ:=μ) (lx:=fun _=>none) (w:=w) (x:=.nilp) (s:=[]) hsz
    have hv0:v=.pointer (some ⟨blk,0,none⟩):=h1
    subst hv0
    have hc0:cur[0]? = some (.pointer none):=by
     have:=(h6 0 .nilp rfl).2.1
     have hq:cur[0]? = some (cur.getD 0 undef):=by simp[Array.getD_eq_getD_getElem?,h8]
     rw[hq];congr 1
     generalize cur.getD 0 undef=z at this
     cases this;rfl
    refine (qfq blk w (by rw[h3.cell];exact hc0) (by simp[h3.shape,h8,SB]) (h3.frozen (by omega))).mono ?_
    rintro e w' ⟨rfl,rfl⟩
    have h9:=hs.setGlobCell (j:=0) (c:=.gp b 0 (some (SB,2))) (v:=.pointer (some ⟨blk,0,none⟩)) hb h2 h3 (by simp) (.mk' ⟨.gp _ _ _ _ h2 (fun q e=>by injection e with e;subst e;simp[h3.shape,h8]),trivial⟩ fun j=>by cases j<;>rfl) rfl
    exact⟨_,_,rfl,h9.unit⟩
   ·rename_i b' sh u hb
    split at e
    ·rename_i hbb
     obtain rfl:b=b':=hbb.symm
     simp only[Option.some.injEq,Prod.mk.injEq] at e
     obtain⟨rfl,rfl⟩:=e
     obtain⟨blk,cur,ty,h1,h2,h3,h4,h5,h6,h7⟩:=hs.gp_open (i:=0) (b:=b) (off:=0) (sh:=some (SB,2)) (by simp[params,look]) hb (by simp)
     have h8:=h7 _ rfl
     simp only[Prod.mk.injEq] at h8
     obtain⟨rfl,h8⟩:=h8
     obtain⟨v,rfl,hv⟩:=qea (B:=B) (T0:=T) (μ0:=μ) (w0:=w) (N:=1) (μ:=μ) (lx:=fun _=>none) (w:=w) (x:=.nilp) (s:=[]) hsz
     have hv0:v=.pointer (some ⟨blk,0,none⟩):=h1
     subst hv0
     have hc0:cur[0]? = some (.pointer (some ⟨blk,0,none⟩)):=by
      have:=(h6 0 _ rfl).2.1
      have hq:cur[0]? = some (cur.getD 0 undef):=by simp[Array.getD_eq_getD_getElem?,h8]
      rw[hq];congr 1
      generalize cur.getD 0 undef=z at this
      cases this with
      | gp _ _ blk' _ hq' _=>rw[h2] at hq';injection hq' with hq';rw[hq']
     refine (qf6 blk w (by rw[h3.cell];exact hc0)).mono ?_
     rintro e w' ⟨rfl,rfl⟩
     exact⟨_,_,rfl,hs.unit⟩
    ·cases e
   ·cases e
  ·cases e
 ·cases e
noncomputable def stringT:List AV→List (List AV)→Option (AV×List (List AV))
 | [.gp b 0 (some (t,2))],s=>if t=SB then (match s[b]? with
   | some [u,.sl (.ex ty 1) xs]=>if ty=U8 then bnd (bytesOf xs) fun l=>need (xs=l.map .u8) (some (.str l,s.set b [u,.sl .sh xs])) else none
   | some [u,.sl .nil []]=>some (.str [],s)
   | _=>none) else none
 | _,_=>none
theorem qo1 {B:Nat} {W0:World} {xs:List AV} {s:List (List AV)} {r:AV} {s':List (List AV)} (e:stringT xs s=some (r,s')):ACalls Tryz.prog B W0 48 xs s r s':=by
 unfold stringT at e
 split at e
 ·rename_i b tt
  split at e
  ·rename_i ht
   subst ht
   intro T μ w vs hsz hW hs
   split at e
   ·rename_i u ty2 xs hb
    split at e
    rotate_left
    ·cases e
    rename_i hty
    subst hty
    obtain⟨l,hl,e⟩:=qa e
    obtain⟨hxs,e⟩:=qo e
    simp only[Option.some.injEq,Prod.mk.injEq] at e
    obtain⟨rfl,rfl⟩:=e
    obtain⟨blk,cur,ty,h1,h2,h3,h4,h5,h6,h7⟩:=hs.gp_open (i:=0) (b:=b) (off:=0) (sh:=some (SB,2)) (by simp[params,look]) hb (by simp)
    have h8:=h7 _ rfl
    simp only[Prod.mk.injEq] at h8
    obtain⟨rfl,h8⟩:=h8
    obtain⟨v,rfl,hv⟩:=qea (B:=B) (T0:=T) (μ0:=μ) (w0:=w) (N:=1) (μ:=μ) (lx:=fun _=>none) (w:=w) (x:=.nilp) (s:=[]) hsz
    have hv0:v=.pointer (some ⟨blk,0,none⟩):=h1
    subst hv0
    obtain⟨p,q,rfl⟩:∃p q,cur=#[p,q]:=by
     obtain⟨l⟩:=cur
     match l,h8 with
     | [p,q],_=>exact⟨p,q,rfl⟩
    have k1:=h6 1 _ rfl
    have kr:Rep B μ w q (.sl (.ex U8 1) xs):=k1.2.1
    have kt:Tk1 B μ w q (.sl (.ex U8 1) xs):=k1.2.2
    have hq1:hs=hs:=rfl
    have hqc:=hs.quietCell hb (j:=1) rfl
    have hown:own ⟨#[.pointer (some ⟨blk,0,none⟩)],[]⟩ (fun _=>none) μ w ⟨params 0 [.gp b 0 (some (SB,2))],[],s⟩ (.gc b 1)=exBlk q (.sl (.ex U8 1) xs):=by
     simp[own,ownB,hb,h2,h3.cell]
    rcases kt with hn|⟨g,cap,cur,rfl,hB,hg,c1,c2,c3,c4,c5,c6⟩
    ·subst hn
     have hx:xs=[]:=by cases kr<;>rfl
     subst hx
     injection hl with hl;subst hl
     refine (qg7 blk p w h3).mono ?_
     rintro e w' ⟨rfl,rfl⟩
     exact⟨_,_,rfl,hqc.drew.1.text []⟩
    ·have hfree:∀l,own ⟨#[.pointer (some ⟨blk,0,none⟩)],[]⟩ (fun _=>none) μ w ⟨params 0 [.gp b 0 (some (SB,2))],[],s.set b [u,.sl .sh xs]⟩ l≠some g:=by
      intro l e
      have hle:Le ⟨params 0 [.gp b 0 (some (SB,2))],[],s.set b [u,.sl .sh xs]⟩ ⟨params 0 [.gp b 0 (some (SB,2))],[],s⟩:=by
       have hb':b<s.length:=(List.getElem?_eq_some_iff.1 hb).1
       refine⟨fun i v e=>⟨v,e,.inl rfl⟩,fun d cs e=>⟨cs,e,CLe.refl _⟩,fun b' cs' e=>?_,by simp,id⟩
       simp only[List.getElem?_set] at e
       by_cases q:b=b'
       ·subst q
        simp[hb'] at e;subst e
        refine⟨_,hb,rfl,fun j' c' e=>?_⟩
        match j',e with
        | 0,e=>exact⟨_,rfl,.inl (by simpa using e.symm)⟩
        | 1,e=>exact⟨_,rfl,.inr (by simpa[dem1] using e.symm)⟩
       ·rw[if_neg q] at e;exact⟨cs',e,CLe.refl _⟩
      have e1:=own_le hle e
      have:=hs.inj l (.gc b 1) g e1 (by rw[hown];rfl)
      subst this
      have hb':b<s.length:=(List.getElem?_eq_some_iff.1 hb).1
      simp[own,ownB,List.getElem?_set,hb',h2,h3.cell,exBlk] at e
     have hr:=hs.rng (.gc b 1) g (by rw[hown];rfl)
     have hqc':Sim B T μ w 1 μ (fun _=>none) ⟨#[.pointer (some ⟨blk,0,none⟩)],[]⟩ w ⟨params 0 [.gp b 0 (some (SB,2))],[],s.set b [u,.sl .sh xs]⟩:=hqc
     by_cases hx:xs=[]
     ·subst hx
      injection hl with hl;subst hl
      by_cases hc0:cap=0
      ·subst hc0
       refine (qhs blk g p cur w h3 hg).mono ?_
       rintro e w' ⟨rfl,rfl⟩
       exact⟨_,_,rfl,(hqc'.alloc _).drew.1.text []⟩
      ·refine (qkf blk g cap p w hc0 h3).mono ?_
       rintro e w' ⟨rfl,rfl⟩
       exact⟨_,_,rfl,hqc'.drew.1.text []⟩
     ·have hl0:l≠[]:=fun e=>by subst e;exact hx hxs
      have hll:l.length=xs.length:=by rw[hxs];simp
      obtain⟨ad,cap',he,_,_,_,k4⟩:=qe7 kr
      obtain⟨b',off',sz',f,had,hsz',hall',hcell,hrep⟩:=k4 hx
      injection he with he1 he2 he3
      rw[had] at he1
      injection he1 with he1
      injection he1 with e1 e2
      subst e1;subst e2
      have hsz1:sz'=1:=by
       obtain⟨x0,hx0⟩:=List.exists_mem_of_ne_nil xs hx
       rw[← (hall' x0 hx0).1];exact (c5 x0 hx0).1
      subst hsz1
      refine (qke blk g cap xs.length p cur l w hl0 hll h3 hg c1 c2 (by omega) (fun j x hj=>?_)).mono ?_
      ·have hjl:j<l.length:=(List.getElem?_eq_some_iff.1 hj).1
       have hxj:xs[j]? = some (.u8 x):=by rw[hxs];simp[hj]
       have h10:=(hcell j (by omega)).1
       have h11:=hrep j 0 (.u8 x) (by rw[hxj];rfl)
       rw[Nat.zero_add,qae hg] at h10
       rw[h10];congr 1
       simp only[Nat.mul_one,Nat.add_zero] at h11
       generalize f j=z at h11
       cases h11;rfl
      ·rintro e w' ⟨rfl,rfl⟩
       have h12:=hqc'.drew
       exact⟨_,_,rfl,(h12.1.freeze (g:=g) (n:=xs.length) (fun l e=>hfree l (by rw[← h12.2];exact e)) hB hr.2.2).text l⟩
   ·rename_i u hb
    simp only[Option.some.injEq,Prod.mk.injEq] at e
    obtain⟨rfl,rfl⟩:=e
    obtain⟨blk,cur,ty,h1,h2,h3,h4,h5,h6,h7⟩:=hs.gp_open (i:=0) (b:=b) (off:=0) (sh:=some (SB,2)) (by simp[params,look]) hb (by simp)
    have h8:=h7 _ rfl
    simp only[Prod.mk.injEq] at h8
    obtain⟨rfl,h8⟩:=h8
    obtain⟨v,rfl,hv⟩:=qea (B:=B) (T0:=T) (μ0:=μ) (w0:=w) (N:=1) (μ:=μ) (lx:=fun _=>none) (w:=w) (x:=.nilp) (s:=[]) hsz
    have hv0:v=.pointer (some ⟨blk,0,none⟩):=h1
    subst hv0
    obtain⟨p,q,rfl⟩:∃p q,cur=#[p,q]:=by
     obtain⟨l⟩:=cur
     match l,h8 with
     | [p,q],_=>exact⟨p,q,rfl⟩
    have kr:Rep B μ w q (.sl .nil []):=(h6 1 _ rfl).2.1
    obtain⟨rfl,_⟩:=kr.nil_val
    refine (qg7 blk p w h3).mono ?_
    rintro e w' ⟨rfl,rfl⟩
    exact⟨_,_,rfl,hs.drew.1.text []⟩
   ·cases e
  ·cases e
 ·cases e
end Go.Proofs.Tryz.Ai
end
section
namespace Go.Proofs.Tryz.Ai
open Go Go.AI Go.RowKit Go.Proofs
set_option linter.unusedVariables false
set_option maxHeartbeats 1000000 in
set_option maxRecDepth 100000 in
theorem walk_index (s:ByteArray) (c:Int) (w:World) :
  Calls Tryz.prog 228 #[.string s,.int .u8 c] w fun e w'=>e=.returned (.int .i64 (Lib.indexByte s.data.toList c.toNat.toUInt8))∧w'=w:=by
 go_enter Tryz.func228,Tryz.ntmps228
 go_wp2
 rw[run_callFunc_extern Tryz.func256 (by kernel_rfl) (by kernel_rfl) (by kernel_rfl) (e:=Extern.BytealgIndexByte.indexByte) (by kernel_rfl),Lib.run_indexByteString]
 simp only[Result.andThen]
 rw[Oper.upon_value]
 go_wp2
 go_ret
 exact⟨rfl,rfl⟩
set_option maxHeartbeats 1000000 in
set_option maxRecDepth 100000 in
theorem walk_compare (a b:ByteArray) (w:World) :
  Calls Tryz.prog 125 #[.string a,.string b] w fun e w'=>e=.returned (.int .i64 (Lib.compareBytes a.data.toList b.data.toList))∧w'=w:=by
 go_enter Tryz.func125,Tryz.ntmps125
 go_wp2
 rw[run_callFunc_extern Tryz.func191 (by kernel_rfl) (by kernel_rfl) (by kernel_rfl) (e:=Extern.BytealgCompare.compare) (by kernel_rfl),Lib.run_compareString]
 simp only[Result.andThen]
 rw[Oper.upon_value]
 go_wp2
 go_ret
 exact⟨rfl,rfl⟩
set_option maxHeartbeats 1000000 in
set_option maxRecDepth 100000 in
theorem walk_count (s:ByteArray) (c:UInt8) (w:World) :
  Calls Tryz.prog 268 #[.string s,.string ⟨#[c]⟩] w fun e w'=>e=.returned (.int .i64 (Lib.countByte s.data.toList c))∧w'=w:=by
 go_enter Tryz.func268,Tryz.ntmps268
 go_wp2
 rw[run_callFunc_extern Tryz.func281 (by kernel_rfl) (by kernel_rfl) (by kernel_rfl) (e:=Extern.BytealgCount.count) (by kernel_rfl),Lib.run_countString]
 simp only[Result.andThen]
 rw[Oper.upon_value]
 go_wp2
 go_ret
 exact⟨rfl,rfl⟩
section
variable {B:Nat} {W0:World} {T0:Nat→Prop} {μ0:Gh} {w0:World} {N:Nat} {μ:Gh} {lx:Nat→Option Nat} {a:Act} {w:World} {st:St}
theorem qkg (h:Sim B T0 μ0 w0 N μ lx a w st) (k:IntKind) (n:Int) (h0:μ0.df=[]:=by first|assumption|exact Sim.mdf (by assumption)):Sim B T0 μ0 w0 1 μ (fun _=>none) ⟨#[.int k n],[]⟩ w ⟨[(0,.int k n)],[],st.s⟩ :=
 h.out (.mk' ⟨.int k n,trivial⟩ fun j=>by cases j<;>simp[ownV,exBlk]) fun d i q=>by cases q
theorem two_args {vs:Array Value} (h:vs.size=2):∃u v,vs=#[u,v]:=by
 obtain⟨l⟩:=vs
 match l,h with
 | [u,v],_=>exact⟨u,v,rfl⟩
theorem qa7 {v:Value} {l:List UInt8} (h:Rep B μ w v (.str l)):∃s:ByteArray,v=.string s∧s.data.toList=l:=by
 cases h with
 | str s=>exact⟨s,rfl,rfl⟩
theorem qo2 {v:Value} {k:IntKind} {n:Int} (h:Rep B μ w v (.int k n)):v=.int k n:=by
 cases h;rfl
end
def indexT:List AV→List (List AV)→Option (AV×List (List AV))
 | [.str l,.int .u8 c],s=>some (.int .i64 (Lib.indexByte l c.toNat.toUInt8),s)
 | _,_=>none
theorem qsh {B:Nat} {W0:World} {xs:List AV} {s:List (List AV)} {r:AV} {s':List (List AV)} (e:indexT xs s=some (r,s')):ACalls Tryz.prog B W0 228 xs s r s':=by
 unfold indexT at e
 split at e
 ·rename_i l c
  simp only[Option.some.injEq,Prod.mk.injEq] at e
  obtain⟨rfl,rfl⟩:=e
  intro T μ w vs hsz hW hs
  obtain⟨u,v,rfl⟩:=two_args (vs:=vs) hsz
  obtain⟨st,rfl,rfl⟩:=qa7 (hs.tmp 0 (.str l) (by simp[params,look])).1
  obtain rfl:=qo2 (hs.tmp 1 (.int .u8 c) (by simp[params,look])).1
  refine (walk_index st c w).mono ?_
  rintro e w' ⟨rfl,rfl⟩
  exact⟨_,_,rfl,qkg hs _ _⟩
 ·cases e
def compareT:List AV→List (List AV)→Option (AV×List (List AV))
 | [.str l,.str m],s=>some (.int .i64 (Lib.compareBytes l m),s)
 | _,_=>none
theorem qmh {B:Nat} {W0:World} {xs:List AV} {s:List (List AV)} {r:AV} {s':List (List AV)} (e:compareT xs s=some (r,s')):ACalls Tryz.prog B W0 125 xs s r s':=by
 unfold compareT at e
 split at e
 ·rename_i l c
  simp only[Option.some.injEq,Prod.mk.injEq] at e
  obtain⟨rfl,rfl⟩:=e
  intro T μ w vs hsz hW hs
  obtain⟨u,v,rfl⟩:=two_args (vs:=vs) hsz
  obtain⟨st,rfl,rfl⟩:=qa7 (hs.tmp 0 (.str l) (by simp[params,look])).1
  obtain⟨st2,rfl,rfl⟩:=qa7 (hs.tmp 1 (.str c) (by simp[params,look])).1
  refine (walk_compare st st2 w).mono ?_
  rintro e w' ⟨rfl,rfl⟩
  exact⟨_,_,rfl,qkg hs _ _⟩
 ·cases e
def countT:List AV→List (List AV)→Option (AV×List (List AV))
 | [.str l,.str [c]],s=>some (.int .i64 (Lib.countByte l c),s)
 | _,_=>none
theorem qsi {B:Nat} {W0:World} {xs:List AV} {s:List (List AV)} {r:AV} {s':List (List AV)} (e:countT xs s=some (r,s')):ACalls Tryz.prog B W0 268 xs s r s':=by
 unfold countT at e
 split at e
 ·rename_i l c
  simp only[Option.some.injEq,Prod.mk.injEq] at e
  obtain⟨rfl,rfl⟩:=e
  intro T μ w vs hsz hW hs
  obtain⟨u,v,rfl⟩:=two_args (vs:=vs) hsz
  obtain⟨st,rfl,rfl⟩:=qa7 (hs.tmp 0 (.str l) (by simp[params,look])).1
  obtain⟨⟨⟨p⟩⟩,rfl,hp⟩:=qa7 (hs.tmp 1 (.str [c]) (by simp[params,look])).1
  simp only at hp
  subst hp
  refine (walk_count st c w).mono ?_
  rintro e w' ⟨rfl,rfl⟩
  exact⟨_,_,rfl,qkg hs _ _⟩
 ·cases e
end Go.Proofs.Tryz.Ai
end
section
namespace Go.Proofs.Tryz.Ai
open Go Go.AI Go.RowKit Go.Proofs Go.Shelf
set_option linter.unusedVariables false
def ren:Go.Shelf.Ren:=⟨fun|99=>194|103=>131|119=>278|120=>260|129=>285|137=>181|138=>268|143=>209|144=>138|145=>50|146=>195|148=>140|151=>234|152=>259|160=>118|171=>133|172=>132|195=>280|197=>233|205=>272|206=>243|210=>203|217=>228|218=>281|219=>173|220=>116|221=>244|222=>210|223=>211|224=>230|225=>229|227=>176|228=>232|231=>174|232=>175|233=>177|234=>178|235=>179|236=>180|243=>206|244=>204|245=>205|246=>252|247=>247|260=>258|266=>256|267=>231|268=>267|269=>253|271=>235|279=>248|280=>249|281=>250|282=>251|283=>273|284=>274|285=>275|286=>276|287=>270|314=>257|316=>271|317=>284|318=>286|319=>287|320=>288|321=>282|322=>283|337=>290|338=>291|n=>n,fun|0=>0|2=>2|3=>3|4=>4|5=>5|9=>9|20=>20|21=>21|24=>66|31=>58|37=>85|46=>262|51=>279|53=>287|59=>108|75=>89|76=>90|80=>102|85=>273|105=>263|116=>236|117=>237|119=>298|124=>240|127=>179|138=>300|139=>301|143=>304|145=>306|146=>280|167=>272|168=>275|171=>293|173=>296|175=>288|210=>291|212=>307|213=>308|232=>311|233=>312|n=>n,fun|1=>0|3=>3|4=>4|15=>1|16=>2|17=>5|18=>6|19=>7|n=>n⟩
theorem qfr:LaysM.n171 Tryz.prog ren:={mixed:=by kernel_rfl,f129:=by kernel_rfl,f171:=by kernel_rfl,f243:=by kernel_rfl,f246:=by kernel_rfl,f283:=by kernel_rfl,f284:=by kernel_rfl,f285:=by kernel_rfl,f286:=by kernel_rfl,f317:=by kernel_rfl,f318:=by kernel_rfl,f319:=by kernel_rfl,f320:=by kernel_rfl,f337:=by kernel_rfl,f338:=by kernel_rfl,t0:=Tryz.underlying0,a0:=Tryz.isAgg0,z0:=Tryz.sizeOf0,v0:=Tryz.zeroValue0,t2:=Tryz.underlying2,a2:=Tryz.isAgg2,z2:=Tryz.sizeOf2,v2:=Tryz.zeroValue2,t3:=Tryz.underlying3,a3:=Tryz.isAgg3,z3:=Tryz.sizeOf3,v3:=Tryz.zeroValue3,t4:=Tryz.underlying4,a4:=Tryz.isAgg4,z4:=Tryz.sizeOf4,v4:=Tryz.zeroValue4,t5:=Tryz.underlying5,a5:=Tryz.isAgg5,z5:=Tryz.sizeOf5,v5:=Tryz.zeroValue5,t9:=Tryz.underlying9,a9:=Tryz.isAgg9,z9:=Tryz.sizeOf9,v9:=Tryz.zeroValue9,t20:=Tryz.underlying20,a20:=Tryz.isAgg20,z20:=Tryz.sizeOf20,v20:=Tryz.zeroValue20,t37:=Tryz.underlying85,a37:=Tryz.isAgg85,z37:=Tryz.sizeOf85,v37:=Tryz.zeroValue85,t46:=Tryz.underlying262,a46:=Tryz.isAgg262,z46:=Tryz.sizeOf262,v46:=Tryz.zeroValue262,t51:=Tryz.underlying279,a51:=Tryz.isAgg279,z51:=Tryz.sizeOf279,v51:=Tryz.zeroValue279,t53:=Tryz.underlying287,a53:=Tryz.isAgg287,z53:=Tryz.sizeOf287,v53:=Tryz.zeroValue287,t171:=Tryz.underlying293,a171:=Tryz.isAgg293,z171:=Tryz.sizeOf293,v171:=Tryz.zeroValue293,t173:=Tryz.underlying296,a173:=Tryz.isAgg296,z173:=Tryz.sizeOf296,v173:=Tryz.zeroValue296,t212:=Tryz.underlying307,a212:=Tryz.isAgg307,z212:=Tryz.sizeOf307,v212:=Tryz.zeroValue307,t213:=Tryz.underlying308,a213:=Tryz.isAgg308,z213:=Tryz.sizeOf308,t232:=Tryz.underlying311,a232:=Tryz.isAgg311,z232:=Tryz.sizeOf311,v232:=Tryz.zeroValue311,t233:=Tryz.underlying312,a233:=Tryz.isAgg312,z233:=Tryz.sizeOf312,v233:=Tryz.zeroValue312,g17:=by kernel_rfl,g18:=by kernel_rfl,g19:=by kernel_rfl,i0:=by kernel_rfl,i2:=by kernel_rfl,i3:=by kernel_rfl,i4:=by kernel_rfl,i5:=by kernel_rfl,i9:=by kernel_rfl,i20:=by kernel_rfl,i37:=by kernel_rfl,i46:=by kernel_rfl,i51:=by kernel_rfl,i53:=by kernel_rfl,i171:=by kernel_rfl,i173:=by kernel_rfl,i212:=by kernel_rfl,i232:=by kernel_rfl,i233:=by kernel_rfl,m17:=by kernel_rfl,m18:=by kernel_rfl,m19:=by kernel_rfl}
theorem qf7:Lays.n219 Tryz.prog ren:={mixed:=by kernel_rfl,f217:=by kernel_rfl,f219:=by kernel_rfl,f224:=by kernel_rfl,f225:=by kernel_rfl,f266:=by kernel_rfl,f267:=by kernel_rfl,f314:=by kernel_rfl,t3:=Tryz.underlying3,a3:=Tryz.isAgg3,z3:=Tryz.sizeOf3,v3:=Tryz.zeroValue3,t4:=Tryz.underlying4,a4:=Tryz.isAgg4,z4:=Tryz.sizeOf4,v4:=Tryz.zeroValue4,t5:=Tryz.underlying5,a5:=Tryz.isAgg5,z5:=Tryz.sizeOf5,v5:=Tryz.zeroValue5,t9:=Tryz.underlying9,a9:=Tryz.isAgg9,z9:=Tryz.sizeOf9,v9:=Tryz.zeroValue9,t46:=Tryz.underlying262,a46:=Tryz.isAgg262,z46:=Tryz.sizeOf262,v46:=Tryz.zeroValue262,t51:=Tryz.underlying279,a51:=Tryz.isAgg279,z51:=Tryz.sizeOf279,v51:=Tryz.zeroValue279,t146:=Tryz.underlying280,a146:=Tryz.isAgg280,z146:=Tryz.sizeOf280,v146:=Tryz.zeroValue280,g1:=by kernel_rfl}
theorem qbu:LaysC.n172 Tryz.prog ren:={mixed:=by kernel_rfl,f129:=by kernel_rfl,f171:=by kernel_rfl,f172:=by kernel_rfl,f205:=by kernel_rfl,f243:=by kernel_rfl,f244:=by kernel_rfl,f245:=by kernel_rfl,f246:=by kernel_rfl,f247:=by kernel_rfl,f279:=by kernel_rfl,f280:=by kernel_rfl,f281:=by kernel_rfl,f282:=by kernel_rfl,f283:=by kernel_rfl,f284:=by kernel_rfl,f285:=by kernel_rfl,f286:=by kernel_rfl,f287:=by kernel_rfl,f316:=by kernel_rfl,f317:=by kernel_rfl,f318:=by kernel_rfl,f319:=by kernel_rfl,f320:=by kernel_rfl,f321:=by kernel_rfl,f322:=by kernel_rfl,f337:=by kernel_rfl,f338:=by kernel_rfl,t0:=Tryz.underlying0,a0:=Tryz.isAgg0,z0:=Tryz.sizeOf0,v0:=Tryz.zeroValue0,t2:=Tryz.underlying2,a2:=Tryz.isAgg2,z2:=Tryz.sizeOf2,v2:=Tryz.zeroValue2,t3:=Tryz.underlying3,a3:=Tryz.isAgg3,z3:=Tryz.sizeOf3,v3:=Tryz.zeroValue3,t4:=Tryz.underlying4,a4:=Tryz.isAgg4,z4:=Tryz.sizeOf4,v4:=Tryz.zeroValue4,t5:=Tryz.underlying5,a5:=Tryz.isAgg5,z5:=Tryz.sizeOf5,v5:=Tryz.zeroValue5,t9:=Tryz.underlying9,a9:=Tryz.isAgg9,z9:=Tryz.sizeOf9,v9:=Tryz.zeroValue9,t20:=Tryz.underlying20,a20:=Tryz.isAgg20,z20:=Tryz.sizeOf20,v20:=Tryz.zeroValue20,t21:=Tryz.underlying21,a21:=Tryz.isAgg21,z21:=Tryz.sizeOf21,v21:=Tryz.zeroValue21,t37:=Tryz.underlying85,a37:=Tryz.isAgg85,z37:=Tryz.sizeOf85,v37:=Tryz.zeroValue85,t46:=Tryz.underlying262,a46:=Tryz.isAgg262,z46:=Tryz.sizeOf262,v46:=Tryz.zeroValue262,t51:=Tryz.underlying279,a51:=Tryz.isAgg279,z51:=Tryz.sizeOf279,v51:=Tryz.zeroValue279,t53:=Tryz.underlying287,a53:=Tryz.isAgg287,z53:=Tryz.sizeOf287,v53:=Tryz.zeroValue287,t75:=Tryz.underlying89,a75:=Tryz.isAgg89,z75:=Tryz.sizeOf89,v75:=Tryz.zeroValue89,t76:=Tryz.underlying90,a76:=Tryz.isAgg90,z76:=Tryz.sizeOf90,v76:=Tryz.zeroValue90,t85:=Tryz.underlying273,a85:=Tryz.isAgg273,z85:=Tryz.sizeOf273,v85:=Tryz.zeroValue273,t127:=Tryz.underlying179,a127:=Tryz.isAgg179,z127:=Tryz.sizeOf179,v127:=Tryz.zeroValue179,t143:=Tryz.underlying304,a143:=Tryz.isAgg304,z143:=Tryz.sizeOf304,v143:=Tryz.zeroValue304,t145:=Tryz.underlying306,a145:=Tryz.isAgg306,z145:=Tryz.sizeOf306,v145:=Tryz.zeroValue306,t167:=Tryz.underlying272,a167:=Tryz.isAgg272,z167:=Tryz.sizeOf272,v167:=Tryz.zeroValue272,t168:=Tryz.underlying275,a168:=Tryz.isAgg275,z168:=Tryz.sizeOf275,v168:=Tryz.zeroValue275,t171:=Tryz.underlying293,a171:=Tryz.isAgg293,z171:=Tryz.sizeOf293,v171:=Tryz.zeroValue293,t173:=Tryz.underlying296,a173:=Tryz.isAgg296,z173:=Tryz.sizeOf296,v173:=Tryz.zeroValue296,t175:=Tryz.underlying288,a175:=Tryz.isAgg288,z175:=Tryz.sizeOf288,v175:=Tryz.zeroValue288,t210:=Tryz.underlying291,a210:=Tryz.isAgg291,z210:=Tryz.sizeOf291,v210:=Tryz.zeroValue291,t212:=Tryz.underlying307,a212:=Tryz.isAgg307,z212:=Tryz.sizeOf307,v212:=Tryz.zeroValue307,t213:=Tryz.underlying308,a213:=Tryz.isAgg308,z213:=Tryz.sizeOf308,t232:=Tryz.underlying311,a232:=Tryz.isAgg311,z232:=Tryz.sizeOf311,v232:=Tryz.zeroValue311,t233:=Tryz.underlying312,a233:=Tryz.isAgg312,z233:=Tryz.sizeOf312,v233:=Tryz.zeroValue312,g15:=by kernel_rfl,g16:=by kernel_rfl,g17:=by kernel_rfl,g18:=by kernel_rfl,g19:=by kernel_rfl,t80:=Tryz.underlying102,a80:=Tryz.isAgg102,z80:=Tryz.sizeOf102,v80:=Tryz.zeroValue102,i0:=by kernel_rfl,i2:=by kernel_rfl,i3:=by kernel_rfl,i4:=by kernel_rfl,i5:=by kernel_rfl,i9:=by kernel_rfl,i20:=by kernel_rfl,i21:=by kernel_rfl,i37:=by kernel_rfl,i46:=by kernel_rfl,i51:=by kernel_rfl,i53:=by kernel_rfl,i75:=by kernel_rfl,i76:=by kernel_rfl,i80:=by kernel_rfl,i85:=by kernel_rfl,i127:=by kernel_rfl,i143:=by kernel_rfl,i145:=by kernel_rfl,i167:=by kernel_rfl,i168:=by kernel_rfl,i171:=by kernel_rfl,i173:=by kernel_rfl,i175:=by kernel_rfl,i210:=by kernel_rfl,i212:=by kernel_rfl,i232:=by kernel_rfl,i233:=by kernel_rfl,m15:=by kernel_rfl,m16:=by kernel_rfl,m17:=by kernel_rfl,m18:=by kernel_rfl,m19:=by kernel_rfl,c0:=by kernel_rfl,c2:=by kernel_rfl,c3:=by kernel_rfl,c4:=by kernel_rfl,c5:=by kernel_rfl,c9:=by kernel_rfl,c20:=by kernel_rfl,c21:=by kernel_rfl,c37:=by kernel_rfl,c46:=by kernel_rfl,c51:=by kernel_rfl,c53:=by kernel_rfl,c75:=by kernel_rfl,c76:=by kernel_rfl,c80:=by kernel_rfl,c85:=by kernel_rfl,c127:=by kernel_rfl,c143:=by kernel_rfl,c145:=by kernel_rfl,c167:=by kernel_rfl,c168:=by kernel_rfl,c171:=by kernel_rfl,c173:=by kernel_rfl,c175:=by kernel_rfl,c210:=by kernel_rfl,c212:=by kernel_rfl,c213:=by kernel_rfl,c232:=by kernel_rfl,c233:=by kernel_rfl}
theorem qf8:Lays.n148 Tryz.prog ren:={mixed:=by kernel_rfl,f148:=by kernel_rfl,f222:=by kernel_rfl,f223:=by kernel_rfl,f269:=by kernel_rfl,t3:=Tryz.underlying3,a3:=Tryz.isAgg3,z3:=Tryz.sizeOf3,v3:=Tryz.zeroValue3,t4:=Tryz.underlying4,a4:=Tryz.isAgg4,z4:=Tryz.sizeOf4,v4:=Tryz.zeroValue4,t5:=Tryz.underlying5,a5:=Tryz.isAgg5,z5:=Tryz.sizeOf5,v5:=Tryz.zeroValue5,t9:=Tryz.underlying9,a9:=Tryz.isAgg9,z9:=Tryz.sizeOf9,v9:=Tryz.zeroValue9,t46:=Tryz.underlying262,a46:=Tryz.isAgg262,z46:=Tryz.sizeOf262,v46:=Tryz.zeroValue262,t51:=Tryz.underlying279,a51:=Tryz.isAgg279,z51:=Tryz.sizeOf279,v51:=Tryz.zeroValue279,t146:=Tryz.underlying280,a146:=Tryz.isAgg280,z146:=Tryz.sizeOf280,v146:=Tryz.zeroValue280}
theorem qf9:Lays.n145 Tryz.prog ren:={mixed:=by kernel_rfl,f145:=by kernel_rfl,f217:=by kernel_rfl,f219:=by kernel_rfl,f220:=by kernel_rfl,f224:=by kernel_rfl,f225:=by kernel_rfl,f266:=by kernel_rfl,f267:=by kernel_rfl,f314:=by kernel_rfl,t3:=Tryz.underlying3,a3:=Tryz.isAgg3,z3:=Tryz.sizeOf3,v3:=Tryz.zeroValue3,t4:=Tryz.underlying4,a4:=Tryz.isAgg4,z4:=Tryz.sizeOf4,v4:=Tryz.zeroValue4,t5:=Tryz.underlying5,a5:=Tryz.isAgg5,z5:=Tryz.sizeOf5,v5:=Tryz.zeroValue5,t9:=Tryz.underlying9,a9:=Tryz.isAgg9,z9:=Tryz.sizeOf9,v9:=Tryz.zeroValue9,t46:=Tryz.underlying262,a46:=Tryz.isAgg262,z46:=Tryz.sizeOf262,v46:=Tryz.zeroValue262,t51:=Tryz.underlying279,a51:=Tryz.isAgg279,z51:=Tryz.sizeOf279,v51:=Tryz.zeroValue279,t59:=Tryz.underlying108,a59:=Tryz.isAgg108,z59:=Tryz.sizeOf108,v59:=Tryz.zeroValue108,t146:=Tryz.underlying280,a146:=Tryz.isAgg280,z146:=Tryz.sizeOf280,v146:=Tryz.zeroValue280,g1:=by kernel_rfl}
theorem qga:Lays.n146 Tryz.prog ren:={mixed:=by kernel_rfl,f138:=by kernel_rfl,f143:=by kernel_rfl,f146:=by kernel_rfl,f195:=by kernel_rfl,f197:=by kernel_rfl,f217:=by kernel_rfl,f218:=by kernel_rfl,f219:=by kernel_rfl,f221:=by kernel_rfl,f224:=by kernel_rfl,f225:=by kernel_rfl,f260:=by kernel_rfl,f266:=by kernel_rfl,f267:=by kernel_rfl,f268:=by kernel_rfl,f314:=by kernel_rfl,t0:=Tryz.underlying0,a0:=Tryz.isAgg0,z0:=Tryz.sizeOf0,v0:=Tryz.zeroValue0,t3:=Tryz.underlying3,a3:=Tryz.isAgg3,z3:=Tryz.sizeOf3,v3:=Tryz.zeroValue3,t4:=Tryz.underlying4,a4:=Tryz.isAgg4,z4:=Tryz.sizeOf4,v4:=Tryz.zeroValue4,t5:=Tryz.underlying5,a5:=Tryz.isAgg5,z5:=Tryz.sizeOf5,v5:=Tryz.zeroValue5,t9:=Tryz.underlying9,a9:=Tryz.isAgg9,z9:=Tryz.sizeOf9,v9:=Tryz.zeroValue9,t21:=Tryz.underlying21,a21:=Tryz.isAgg21,z21:=Tryz.sizeOf21,v21:=Tryz.zeroValue21,t31:=Tryz.underlying58,a31:=Tryz.isAgg58,z31:=Tryz.sizeOf58,v31:=Tryz.zeroValue58,t46:=Tryz.underlying262,a46:=Tryz.isAgg262,z46:=Tryz.sizeOf262,v46:=Tryz.zeroValue262,t51:=Tryz.underlying279,a51:=Tryz.isAgg279,z51:=Tryz.sizeOf279,v51:=Tryz.zeroValue279,t105:=Tryz.underlying263,a105:=Tryz.isAgg263,z105:=Tryz.sizeOf263,v105:=Tryz.zeroValue263,t119:=Tryz.underlying298,a119:=Tryz.isAgg298,z119:=Tryz.sizeOf298,t138:=Tryz.underlying300,a138:=Tryz.isAgg300,z138:=Tryz.sizeOf300,v138:=Tryz.zeroValue300,t139:=Tryz.underlying301,a139:=Tryz.isAgg301,z139:=Tryz.sizeOf301,v139:=Tryz.zeroValue301,t146:=Tryz.underlying280,a146:=Tryz.isAgg280,z146:=Tryz.sizeOf280,v146:=Tryz.zeroValue280,g1:=by kernel_rfl,g3:=by kernel_rfl,g4:=by kernel_rfl}
theorem qgb:Lays.n103 Tryz.prog ren:={mixed:=by kernel_rfl,f103:=by kernel_rfl,f206:=by kernel_rfl,f210:=by kernel_rfl,t3:=Tryz.underlying3,a3:=Tryz.isAgg3,z3:=Tryz.sizeOf3,v3:=Tryz.zeroValue3,t4:=Tryz.underlying4,a4:=Tryz.isAgg4,z4:=Tryz.sizeOf4,v4:=Tryz.zeroValue4,t9:=Tryz.underlying9,a9:=Tryz.isAgg9,z9:=Tryz.sizeOf9,v9:=Tryz.zeroValue9,t24:=Tryz.underlying66,a24:=Tryz.isAgg66,z24:=Tryz.sizeOf66,v24:=Tryz.zeroValue66}
theorem qht:Lays.n99 Tryz.prog ren:={mixed:=by kernel_rfl,f99:=by kernel_rfl,f206:=by kernel_rfl,t3:=Tryz.underlying3,a3:=Tryz.isAgg3,z3:=Tryz.sizeOf3,v3:=Tryz.zeroValue3,t4:=Tryz.underlying4,a4:=Tryz.isAgg4,z4:=Tryz.sizeOf4,v4:=Tryz.zeroValue4,t9:=Tryz.underlying9,a9:=Tryz.isAgg9,z9:=Tryz.sizeOf9,v9:=Tryz.zeroValue9}
theorem qdl:Lays.n160 Tryz.prog ren:={mixed:=by kernel_rfl,f119:=by kernel_rfl,f120:=by kernel_rfl,f137:=by kernel_rfl,f151:=by kernel_rfl,f152:=by kernel_rfl,f160:=by kernel_rfl,f197:=by kernel_rfl,f217:=by kernel_rfl,f224:=by kernel_rfl,f225:=by kernel_rfl,f227:=by kernel_rfl,f228:=by kernel_rfl,f231:=by kernel_rfl,f232:=by kernel_rfl,f233:=by kernel_rfl,f234:=by kernel_rfl,f235:=by kernel_rfl,f236:=by kernel_rfl,f260:=by kernel_rfl,f266:=by kernel_rfl,f271:=by kernel_rfl,t0:=Tryz.underlying0,a0:=Tryz.isAgg0,z0:=Tryz.sizeOf0,v0:=Tryz.zeroValue0,t3:=Tryz.underlying3,a3:=Tryz.isAgg3,z3:=Tryz.sizeOf3,v3:=Tryz.zeroValue3,t4:=Tryz.underlying4,a4:=Tryz.isAgg4,z4:=Tryz.sizeOf4,v4:=Tryz.zeroValue4,t5:=Tryz.underlying5,a5:=Tryz.isAgg5,z5:=Tryz.sizeOf5,v5:=Tryz.zeroValue5,t9:=Tryz.underlying9,a9:=Tryz.isAgg9,z9:=Tryz.sizeOf9,v9:=Tryz.zeroValue9,t21:=Tryz.underlying21,a21:=Tryz.isAgg21,z21:=Tryz.sizeOf21,v21:=Tryz.zeroValue21,t46:=Tryz.underlying262,a46:=Tryz.isAgg262,z46:=Tryz.sizeOf262,v46:=Tryz.zeroValue262,t105:=Tryz.underlying263,a105:=Tryz.isAgg263,z105:=Tryz.sizeOf263,v105:=Tryz.zeroValue263,t116:=Tryz.underlying236,a116:=Tryz.isAgg236,z116:=Tryz.sizeOf236,t117:=Tryz.underlying237,a117:=Tryz.isAgg237,z117:=Tryz.sizeOf237,v117:=Tryz.zeroValue237,t119:=Tryz.underlying298,a119:=Tryz.isAgg298,z119:=Tryz.sizeOf298,t124:=Tryz.underlying240,a124:=Tryz.isAgg240,z124:=Tryz.sizeOf240,v124:=Tryz.zeroValue240,t138:=Tryz.underlying300,a138:=Tryz.isAgg300,z138:=Tryz.sizeOf300,v138:=Tryz.zeroValue300,t139:=Tryz.underlying301,a139:=Tryz.isAgg301,z139:=Tryz.sizeOf301,v139:=Tryz.zeroValue301,g3:=by kernel_rfl,g4:=by kernel_rfl}
theorem qgc:Lays.n144 Tryz.prog ren:={mixed:=by kernel_rfl,f143:=by kernel_rfl,f144:=by kernel_rfl,f217:=by kernel_rfl,f219:=by kernel_rfl,f224:=by kernel_rfl,f225:=by kernel_rfl,f266:=by kernel_rfl,f267:=by kernel_rfl,f314:=by kernel_rfl,t3:=Tryz.underlying3,a3:=Tryz.isAgg3,z3:=Tryz.sizeOf3,v3:=Tryz.zeroValue3,t4:=Tryz.underlying4,a4:=Tryz.isAgg4,z4:=Tryz.sizeOf4,v4:=Tryz.zeroValue4,t5:=Tryz.underlying5,a5:=Tryz.isAgg5,z5:=Tryz.sizeOf5,v5:=Tryz.zeroValue5,t9:=Tryz.underlying9,a9:=Tryz.isAgg9,z9:=Tryz.sizeOf9,v9:=Tryz.zeroValue9,t46:=Tryz.underlying262,a46:=Tryz.isAgg262,z46:=Tryz.sizeOf262,v46:=Tryz.zeroValue262,t51:=Tryz.underlying279,a51:=Tryz.isAgg279,z51:=Tryz.sizeOf279,v51:=Tryz.zeroValue279,t146:=Tryz.underlying280,a146:=Tryz.isAgg280,z146:=Tryz.sizeOf280,v146:=Tryz.zeroValue280,g1:=by kernel_rfl}
def Laid (W:World):Prop:=Lib.TabIs Tryz.prog W "internal/strconv.uint64pow10" .u64 Lib.pow10Tab
section
variable {B:Nat} {T0:Nat→Prop} {μ0:Gh} {w0:World} {N:Nat} {μ:Gh} {lx:Nat→Option Nat} {a:Act} {w:World} {st:St}
theorem qo3 (h:Sim B T0 μ0 w0 N μ lx a w st) (k:Nat):Sim B T0 μ0 w0 N μ lx a (w.drewN k) st:=by
 induction k with
 | zero=>exact h
 | succ k ih=>exact ih.drew.1
theorem qsj (os:List Obj):∀{w:World},Sim B T0 μ0 w0 N μ lx a w st→Sim B T0 μ0 w0 N μ lx a (Go.Sort.grow w os.toArray) st:=by
 induction os with
 | nil=>exact fun h=>by simpa using h
 | cons o r ih =>
  intro w h
  have:=ih (h.alloc o)
  rw[Go.Sort.alloc_eq_grow,Go.Sort.grow_grow] at this
  simpa using this
end
noncomputable def itoaT:List AV→List (List AV)→Option (AV×List (List AV))
 | [.int .i64 n],s=>need (-9223372036854775808≤n∧n≤9223372036854775807) (some (.str (Lib.itoa n),s))
 | _,_=>none
theorem qvo {W0:World} (hl:Laid W0) {xs:List AV} {s:List (List AV)} {r:AV} {s':List (List AV)} (e:itoaT xs s=some (r,s')):ACalls Tryz.prog W0.heap.size W0 133 xs s r s':=by
 unfold itoaT at e
 split at e
 ·rename_i n
  obtain⟨hn,e⟩:=qo e
  simp only[Option.some.injEq,Prod.mk.injEq] at e
  obtain⟨rfl,rfl⟩:=e
  intro T μ w vs hsz hW hs
  obtain⟨v,rfl,_⟩:=qea (B:=0) (T0:=T) (μ0:=μ) (w0:=w) (N:=1) (μ:=μ) (lx:=fun _=>none) (w:=w) (x:=.nilp) (s:=[]) hsz
  obtain rfl:=qo2 (hs.tmp 0 (.int .i64 n) (by simp[params,look])).1
  have hw:Laid w:=Lib.tabBelow_of_tabIs hl w hW
  refine (Any.strconv_Itoa qfr n hn.1 hn.2 w hw).mono ?_
  rintro e w' ⟨rfl,k,os,rfl⟩
  exact⟨_,_,rfl,by have:=(qsj os.toList (qo3 hs k)).text (Lib.itoa n);simpa using this⟩
 ·cases e
end Go.Proofs.Tryz.Ai
end
section
namespace Go.Proofs.Tryz.Ai
open Go Go.AI Go.RowKit Go.Proofs Go.Shelf
set_option linter.unusedVariables false
def IntAt (W:World) (g:Nat):Prop:=∃m,W.cell? ⟨g,0,none⟩=some (.int .i64 m)
def ErrAt (W:World) (g:Nat):Prop:=∃ev,W.cell? ⟨g,0,none⟩=some ev∧(ev=.nilIface∨∃te pe,ev=.iface te pe)
theorem IntAt.below {W0 w:World} {g:Nat} (h:IntAt W0 g) (hb:Below W0.heap.size W0 w):IntAt w g:=by
 obtain⟨m,hm⟩:=h
 exact⟨m,by rw[hb.cell (World.block_lt_of_cell? _ _ hm)];exact hm⟩
theorem ErrAt.below {W0 w:World} {g:Nat} (h:ErrAt W0 g) (hb:Below W0.heap.size W0 w):ErrAt w g:=by
 obtain⟨m,hm,hx⟩:=h
 exact⟨m,by rw[hb.cell (World.block_lt_of_cell? _ _ hm)];exact hm,hx⟩
structure LaidAll (W:World):Prop where
 tab:Laid W
 max:IntAt W 0
 esyn:ErrAt W 1
 eran:ErrAt W 2
theorem maxLen_of {W:World} (h:W.ShapedOpen Tryz.prog):IntAt W 0 :=
 cell_of_shapedOpen_int (t:=3) (zero:=#[.int .i64 0]) h (by decide +kernel) (by kernel_rfl) rfl (by kernel_rfl) (by kernel_rfl) Tryz.underlying3
noncomputable def indexST:List AV→List (List AV)→Option (AV×List (List AV))
 | [.str l,.str m],s=>need (l.length<4294967281) (some (.int .i64 (Lib.index l m),s))
 | _,_=>none
theorem qo4 {W0:World} (hl:LaidAll W0) {xs:List AV} {s:List (List AV)} {r:AV} {s':List (List AV)} (e:indexST xs s=some (r,s')):ACalls Tryz.prog W0.heap.size W0 173 xs s r s':=by
 unfold indexST at e
 split at e
 ·rename_i l m
  obtain⟨hn,e⟩:=qo e
  simp only[Option.some.injEq,Prod.mk.injEq] at e
  obtain⟨rfl,rfl⟩:=e
  refine qc6 fun w vs hsz hW hr=>?_
  obtain⟨u,v,rfl⟩:=two_args (vs:=vs) hsz
  obtain⟨μ,h0⟩:=hr 0 (.str l) rfl
  obtain⟨μ',h1⟩:=hr 1 (.str m) rfl
  obtain⟨a,rfl,rfl⟩:=qa7 (h0.resolve_right (by simp[isTup]))
  obtain⟨b,rfl,rfl⟩:=qa7 (h1.resolve_right (by simp[isTup]))
  obtain⟨k,hk⟩:=hl.max.below hW
  refine (Any.stringslite_Index qf7 a b k w (by simpa using hn) hk).mono ?_
  rintro e w' ⟨rfl,rfl⟩
  exact⟨_,rfl,AI.Told.int _ _,Below.refl _ _⟩
 ·cases e
theorem starErr: "*"++ "errors.errorString"= "*errors.errorString":=by decide
theorem rowErr (u:TypeId) (h:Tryz.prog.typeName? 3 u=some "*errors.errorString"):u=304 :=
 typeName_ptr_named (nm:= "errors.errorString") (by rw[starErr];kernel_rfl) (by kernel_rfl) (by decide) u (by rw[starErr];exact h)
theorem laidMet_drop {P:Program} {w:World} (k:Nat):∀{laid:List (String×DataW Unit)},laidMet P laid w→laidMet P (laid.drop k) w:=by
 induction k with
 | zero=>intro laid h;exact h
 | succ k ih =>
  intro laid h
  cases laid with
  | nil=>exact h
  | cons x r=>exact ih h.tail
theorem errAt_of {n:String} {text:List UInt8} {r:List (String×DataW Unit)} {W:World} {g:Nat} (h:laidMet Tryz.prog ((n,.iface "*errors.errorString" (.ptr (.agg [.lit (.string text)])))::r) W)
  (hg:Tryz.prog.globalNamed n=some g) (ht:(Tryz.prog.globals[g]?).map (·.type)=some 89):ErrAt W g:=by
 obtain⟨a0,s0,hv0,-,-,-⟩:=laid_sentinel h hg ht Tryz.underlying89 rowErr Tryz.underlying304 Tryz.underlying306 rfl rfl Tryz.underlying9 (by kernel_rfl) (by kernel_rfl)
 exact⟨_,by have h0:=World.var?_cell hg hv0 0;simpa using h0,.inr ⟨_,_,rfl⟩⟩
noncomputable def atoiT:List AV→List (List AV)→Option (AV×List (List AV))
 | [.str l],s=>need (l.length≤281474976710656) (match Lib.atoiAll l with
  | .ok v=>some (.tup [.int .i64 v,.nili],s)
  | .range=>some (.tup [.int .i64 (Lib.atoiSat l),.ifx],s)
  | _=>some (.tup [.int .i64 0,.ifx],s))
 | _,_=>none
theorem qvp {W0:World} (hl:LaidAll W0) {xs:List AV} {s:List (List AV)} {r:AV} {s':List (List AV)} (e:atoiT xs s=some (r,s')):ACalls Tryz.prog W0.heap.size W0 132 xs s r s':=by
 unfold atoiT at e
 split at e
 ·rename_i l
  obtain⟨hn,e⟩:=qo e
  have key:∀r0,some (r0,s)=some (r,s')→(∀(w:World) (a:ByteArray),a.data.toList=l→Below W0.heap.size W0 w→Calls Tryz.prog 132 #[.string a] w fun e w'=>∃v,e=.returned v∧AI.Told v r0∧Below w.heap.size w w')→ACalls Tryz.prog W0.heap.size W0 132 [.str l] s r s':=by
   intro r0 e0 hc
   simp only[Option.some.injEq,Prod.mk.injEq] at e0
   obtain⟨rfl,rfl⟩:=e0
   refine qc6 fun w vs hsz hW hr=>?_
   obtain⟨v,rfl,_⟩:=qea (B:=0) (T0:=fun _=>True) (μ0:=gh0) (w0:=w) (N:=1) (μ:=gh0) (lx:=fun _=>none) (w:=w) (x:=.nilp) (s:=[]) hsz
   obtain⟨μ,h0⟩:=hr 0 (.str l) rfl
   obtain⟨a,rfl,ha⟩:=qa7 (h0.resolve_right (by simp[isTup]))
   exact hc w a ha hW
  rcases hq:Lib.atoiAll l with v|_|_
  ·skip
   rw[hq] at e
   refine key _ e fun w a ha hW=>?_
   subst ha
   refine (Any.strconv_Atoi_ok qbu a (by simp at hn;omega) v hq w).mono ?_
   rintro e w' ⟨rfl,hw⟩
   refine⟨_,rfl,AI.Told.intNil _,?_⟩
   rcases hw with rfl|⟨t,rfl⟩
   ·exact Below.refl _ _
   ·exact Go.Joins.below_bytesWorld _ _ _ _ (Nat.le_refl _)
  ·skip
   rw[hq] at e
   refine key _ e fun w a ha hW=>?_
   subst ha
   obtain⟨ev,h1,h2⟩:=hl.esyn.below hW
   refine (Any.strconv_Atoi_syntax qbu a (by simpa using hn) hq ev w h1 h2).mono ?_
   rintro e w' ⟨N,rfl,_,_,hb⟩
   exact⟨_,rfl,AI.Told.intErr _ _ _,hb⟩
  ·skip
   rw[hq] at e
   refine key _ e fun w a ha hW=>?_
   subst ha
   obtain⟨ev,h1,h2⟩:=hl.eran.below hW
   refine (Any.strconv_Atoi_range qbu a (by simpa using hn) hq ev w h1 h2).mono ?_
   rintro e w' ⟨N,rfl,_,_,hb⟩
   exact⟨_,rfl,AI.Told.intErr _ _ _,hb⟩
 ·cases e
noncomputable def lastIndexT:List AV→List (List AV)→Option (AV×List (List AV))
 | [.str l,.str m],s=>need (l.length<4611686018427387904) (some (.int .i64 (Lib.lastIndex l m),s))
 | _,_=>none
theorem qja {W0:World} {xs:List AV} {s:List (List AV)} {r:AV} {s':List (List AV)} (e:lastIndexT xs s=some (r,s')):ACalls Tryz.prog W0.heap.size W0 140 xs s r s':=by
 unfold lastIndexT at e
 split at e
 ·rename_i l m
  obtain⟨hn,e⟩:=qo e
  simp only[Option.some.injEq,Prod.mk.injEq] at e
  obtain⟨rfl,rfl⟩:=e
  refine qc6 fun w vs hsz hW hr=>?_
  obtain⟨u,v,rfl⟩:=two_args (vs:=vs) hsz
  obtain⟨μ,h0⟩:=hr 0 (.str l) rfl
  obtain⟨μ',h1⟩:=hr 1 (.str m) rfl
  obtain⟨a,rfl,rfl⟩:=qa7 (h0.resolve_right (by simp[isTup]))
  obtain⟨b,rfl,rfl⟩:=qa7 (h1.resolve_right (by simp[isTup]))
  refine (Any.strings_LastIndex qf8 a b (by simpa using hn) w).mono ?_
  rintro e w' ⟨rfl,rfl⟩
  exact⟨_,rfl,AI.Told.int _ _,Below.refl _ _⟩
 ·cases e
theorem told_tup {vs:List Value} {cs:List AV} (hl:vs.length=cs.length) (h:∀(j:Nat) (c:AV),cs[j]? = some c→scal c=true∧∀(B:Nat) (μ:Gh) (w:World),Rep B μ w ((vs.toArray).getD j undef) c):AI.Told (.tuple vs.toArray) (.tup cs):=by
 refine⟨fun B μ w=>⟨.tup _ _ (by simpa using hl) fun j c hc=>(h j c hc).2 B μ w,fun j c hc=>?_⟩,fun j=>?_,by simp⟩
 ·have:=(h j c hc).1
  cases c<;>first|trivial|(simp[scal] at this;done)
 ·cases j with
  | none=>rfl
  | some j =>
   simp only[ownV]
   cases hc:cs[j]? with
   | none=>rfl
   | some c =>
    have:=(h j c hc).1
    simp only[Option.bind_some]
    cases c<;>first|(simp[scal] at this;done)|(simp[exBlk];done)|rfl
theorem qhu (l:List UInt8) (B:Nat) (μ:Gh) (w:World):Rep B μ w (.string ⟨l.toArray⟩) (.str l):=by
 have:=Rep.str (B:=B) (μ:=μ) (w:=w) ⟨l.toArray⟩;simpa using this
theorem told_ssb (a b:List UInt8) (c:Bool):AI.Told (.tuple #[.string ⟨a.toArray⟩,.string ⟨b.toArray⟩,.bool c]) (.tup [.str a,.str b,.bool c]) :=
 told_tup (vs:=[.string ⟨a.toArray⟩,.string ⟨b.toArray⟩,.bool c]) rfl fun j x hx=>by
  match j,hx with
  | 0,hx=>simp at hx;subst hx;exact⟨rfl,qhu a⟩
  | 1,hx=>simp at hx;subst hx;exact⟨rfl,qhu b⟩
  | 2,hx=>simp at hx;subst hx;exact⟨rfl,fun _ _ _=>.bool _⟩
  | j+3,hx=>simp at hx
theorem told_sb (a:List UInt8) (c:Bool):AI.Told (.tuple #[.string ⟨a.toArray⟩,.bool c]) (.tup [.str a,.bool c]) :=
 told_tup (vs:=[.string ⟨a.toArray⟩,.bool c]) rfl fun j x hx=>by
  match j,hx with
  | 0,hx=>simp at hx;subst hx;exact⟨rfl,qhu a⟩
  | 1,hx=>simp at hx;subst hx;exact⟨rfl,fun _ _ _=>.bool _⟩
  | j+2,hx=>simp at hx
theorem qbo {B:Nat} {W0:World} {f:FuncId} {l m:List UInt8} {s:List (List AV)} {r:AV}
  (h:∀(w:World) (a b:ByteArray),a.data.toList=l→b.data.toList=m→Below B W0 w→Calls Tryz.prog f #[.string a,.string b] w fun e w'=>∃v,e=.returned v∧AI.Told v r∧Below w.heap.size w w'):ACalls Tryz.prog B W0 f [.str l,.str m] s r s:=by
 refine qc6 fun w vs hsz hW hr=>?_
 obtain⟨u,v,rfl⟩:=two_args (vs:=vs) hsz
 obtain⟨μ,h0⟩:=hr 0 (.str l) rfl
 obtain⟨μ',h1⟩:=hr 1 (.str m) rfl
 obtain⟨a,rfl,ha⟩:=qa7 (h0.resolve_right (by simp[isTup]))
 obtain⟨b,rfl,hb⟩:=qa7 (h1.resolve_right (by simp[isTup]))
 exact h w a b ha hb hW
theorem bsz (m:List UInt8):(⟨m.toArray⟩:ByteArray).size=m.length:=by show m.toArray.size=m.length;simp
theorem blw (w:World) (n:Nat):Below w.heap.size w (w.drewN n):=⟨rfl,rfl,rfl,Nat.le_refl _,fun _ _=>rfl⟩
noncomputable def cutT:List AV→List (List AV)→Option (AV×List (List AV))
 | [.str l,.str m],s=>need (l.length<4294967281) (some (.tup [.str (Lib.cut l m).1,.str (Lib.cut l m).2.1,.bool (Lib.cut l m).2.2],s))
 | _,_=>none
theorem qyk {W0:World} (hl:LaidAll W0) {xs:List AV} {s:List (List AV)} {r:AV} {s':List (List AV)} (e:cutT xs s=some (r,s')):ACalls Tryz.prog W0.heap.size W0 50 xs s r s':=by
 unfold cutT at e
 split at e
 ·rename_i l m
  obtain⟨hn,e⟩:=qo e
  simp only[Option.some.injEq,Prod.mk.injEq] at e
  obtain⟨rfl,rfl⟩:=e
  refine qbo fun w a b ha hb hW=>?_
  subst ha hb
  obtain⟨k,hk⟩:=hl.max.below hW
  refine (Any.strings_Cut qf9 a b k w (by simpa using hn) hk).mono ?_
  rintro e w' ⟨rfl,n,rfl⟩
  exact⟨_,rfl,told_ssb _ _ _,blw w n⟩
 ·cases e
noncomputable def splitT:List AV→List (List AV)→Option (AV×List (List AV))
 | [.str l,.str m],s=>need (l.length<4294967281∧1≤m.length) (some (.sl (.ex 9 1) ((Lib.split l m).map .str),s))
 | _,_=>none
theorem qsk {W0:World} (hl:LaidAll W0) {xs:List AV} {s:List (List AV)} {r:AV} {s':List (List AV)} (e:splitT xs s=some (r,s')):ACalls Tryz.prog W0.heap.size W0 195 xs s r s':=by
 unfold splitT at e
 split at e
 ·rename_i l m
  obtain⟨⟨hn,h1⟩,e⟩:=qo e
  simp only[Option.some.injEq,Prod.mk.injEq] at e
  obtain⟨rfl,rfl⟩:=e
  have hlen:(Lib.split l m).length=Lib.countB ⟨l.toArray⟩ ⟨m.toArray⟩+1:=by
   have e1:=Lib.splitB_all ⟨m.toArray⟩ (by rw[bsz];exact h1) 0 _ ⟨l.toArray⟩ rfl
   have e2:=Lib.splitB_data ⟨m.toArray⟩ 0 (Lib.countB ⟨l.toArray⟩ ⟨m.toArray⟩) ⟨l.toArray⟩
   rw[← e1,← List.length_map (f:=fun x:ByteArray=>x.data.toList),e2]
   rfl
  have hle:=Lib.countB_le ⟨m.toArray⟩ (by rw[bsz];exact h1) l.length ⟨l.toArray⟩ (by rw[bsz];omega)
  refine qj7 (by rw[bsz] at hle;rw[hlen];unfold maxLen;omega) fun w vs hsz hW hr=>?_
  obtain⟨u,v,rfl⟩:=two_args (vs:=vs) hsz
  obtain⟨μ,h0⟩:=hr 0 (.str l) rfl
  obtain⟨μ',h1'⟩:=hr 1 (.str m) rfl
  obtain⟨a,rfl,rfl⟩:=qa7 (h0.resolve_right (by simp[isTup]))
  obtain⟨b,rfl,rfl⟩:=qa7 (h1'.resolve_right (by simp[isTup]))
  obtain⟨k,hk⟩:=hl.max.below hW
  refine (Any.strings_Split qga (by kernel_rfl) a b k w (by simpa using hn) hk (by simpa using h1)).mono ?_
  rintro e w' ⟨rfl,rfl⟩
  have e2:=Lib.splitB_data b 0 (Lib.countB a b) a
  have e3:Lib.split a.data.toList b.data.toList=(Lib.splitB b 0 (Lib.countB a b) a).map (·.data.toList):=by rw[e2];rfl
  refine⟨by rw[hlen],?_⟩
  congr 2
  rw[e3,List.map_map]
  apply congrArg
  apply List.map_congr_left
  intro x _
  rfl
 ·cases e
noncomputable def cutPrefixT:List AV→List (List AV)→Option (AV×List (List AV))
 | [.str l,.str m],s=>some (.tup [.str (Lib.trimPrefix l m),.bool (Lib.hasPrefix l m)],s)
 | _,_=>none
theorem qjb {W0:World} {xs:List AV} {s:List (List AV)} {r:AV} {s':List (List AV)} (e:cutPrefixT xs s=some (r,s')):ACalls Tryz.prog W0.heap.size W0 131 xs s r s':=by
 unfold cutPrefixT at e
 split at e
 ·simp only[Option.some.injEq,Prod.mk.injEq] at e
  obtain⟨rfl,rfl⟩:=e
  refine qbo fun w a b ha hb hW=>?_
  subst ha hb
  refine (Any.strings_CutPrefix qgb a b w).mono ?_
  rintro e w' ⟨rfl,rfl⟩
  exact⟨_,rfl,told_sb _ _,Below.refl _ _⟩
 ·cases e
noncomputable def hasPrefixT:List AV→List (List AV)→Option (AV×List (List AV))
 | [.str l,.str m],s=>some (.bool (Lib.hasPrefix l m),s)
 | _,_=>none
theorem hasPrefix_ok {W0:World} {xs:List AV} {s:List (List AV)} {r:AV} {s':List (List AV)} (e:hasPrefixT xs s=some (r,s')):ACalls Tryz.prog W0.heap.size W0 194 xs s r s':=by
 unfold hasPrefixT at e
 split at e
 ·simp only[Option.some.injEq,Prod.mk.injEq] at e
  obtain⟨rfl,rfl⟩:=e
  refine qbo fun w a b ha hb hW=>?_
  subst ha hb
  refine (Any.strings_HasPrefix qht a b w).mono ?_
  rintro e w' ⟨rfl,rfl⟩
  exact⟨_,rfl,AI.Told.bool _,Below.refl _ _⟩
 ·cases e
def asciiB (m:List UInt8):Bool:=m.all fun b=>decide (b.toNat<128)
noncomputable def trimT:List AV→List (List AV)→Option (AV×List (List AV))
 | [.str l,.str [c]],s=>need (l.length≤9223372036854775807∧c.toNat<128) (some (.str (Lib.trimB l c),s))
 | [.str l,.str m],s=>need (l.length≤9223372036854775807∧m.length<4294967281∧asciiB m=true) (some (.str (Lib.trimS l m),s))
 | _,_=>none
theorem trim_ok {W0:World} {xs:List AV} {s:List (List AV)} {r:AV} {s':List (List AV)} (e:trimT xs s=some (r,s')):ACalls Tryz.prog W0.heap.size W0 118 xs s r s':=by
 unfold trimT at e
 split at e
 ·rename_i l c
  obtain⟨⟨hn,hc⟩,e⟩:=qo e
  simp only[Option.some.injEq,Prod.mk.injEq] at e
  obtain⟨rfl,rfl⟩:=e
  refine qbo fun w a b ha hb hW=>?_
  subst ha
  obtain rfl:b=⟨#[c]⟩:=by obtain⟨⟨b⟩⟩:=b;simp at hb;subst hb;rfl
  refine (Any.strings_Trim_one qdl a c hc w (by simpa using hn)).mono ?_
  rintro e w' ⟨rfl,hw⟩
  refine⟨_,rfl,AI.Told.str _,?_⟩
  rcases hw with rfl|rfl
  ·exact Below.refl _ _
  ·exact blw w 1
 ·rename_i l m hm
  obtain⟨⟨hn,hc,ha⟩,e⟩:=qo e
  simp only[Option.some.injEq,Prod.mk.injEq] at e
  obtain⟨rfl,rfl⟩:=e
  refine qbo fun w a b hx hb hW=>?_
  subst hx hb
  refine (Any.strings_Trim_laid qdl (by kernel_rfl) a b w (by simpa using hn) (by simpa using hc) (ascii_of_all ha)).mono ?_
  rintro e w' ⟨rfl,hw⟩
  exact⟨_,rfl,AI.Told.str _,hw⟩
 ·cases e
noncomputable def containsT:List AV→List (List AV)→Option (AV×List (List AV))
 | [.str l,.str m],s=>need (l.length<4294967281) (some (.bool (Lib.contains l m),s))
 | _,_=>none
theorem qkh {W0:World} (hl:LaidAll W0) {xs:List AV} {s:List (List AV)} {r:AV} {s':List (List AV)} (e:containsT xs s=some (r,s')):ACalls Tryz.prog W0.heap.size W0 138 xs s r s':=by
 unfold containsT at e
 split at e
 ·obtain⟨hn,e⟩:=qo e
  simp only[Option.some.injEq,Prod.mk.injEq] at e
  obtain⟨rfl,rfl⟩:=e
  refine qbo fun w a b ha hb hW=>?_
  subst ha hb
  obtain⟨k,hk⟩:=hl.max.below hW
  refine (Any.strings_Contains qgc a b k w (by simpa using hn) hk).mono ?_
  rintro e w' ⟨rfl,rfl⟩
  exact⟨_,rfl,AI.Told.bool _,Below.refl _ _⟩
 ·cases e
end Go.Proofs.Tryz.Ai
end
section
namespace Go.Proofs.Tryz.Ai
open Go Go.AI Go.RowKit Go.Proofs Go.MapKept
set_option linter.unusedVariables false
theorem qmi {P:Program} {w:World} {t kt et:TypeId} {r c:Nat} {es:Array MapEntry} {k:ByteArray} {v:Value} (ht:P.underlying t=some (.map kt et)) (hk:P.underlying kt=some .string) (hb:w.heap[r]? = some (Obj.map es c))
  (hf:Instr.findNow .string (.string k) es.toList 0=some none):(Instr.mapUpdate t (.map (some r)) (.string k) v).run P w=.ok () {w with heap:=w.heap.setIfInBounds r (.map (es.push ⟨.string k,v,c⟩) (c+1))}:=by
 have hck:(Instr.checkKey false 10000 kt (.string k)).run P w=.ok () w:=run_checkKey hk (by simp[IsKey]) _ 9999
 simp only[Instr.mapUpdate,Sem.run_bind,run_underlying ht,Result.andThen_ok,MapKept.run_getObj_map hb,hck,run_findKey hk hf,run_setObj_map _ hb]
theorem qas {P:Program} {w:World} {t kt et:TypeId} {c:Nat} {es:Array MapEntry} {k:ByteArray} {v:Value} (ht:P.underlying t=some (.map kt et)) (hk:P.underlying kt=some .string)
  (hf:Instr.findNow .string (.string k) es.toList 0=some none):(Instr.mapUpdate t (.map (some w.heap.size)) (.string k) v).run P (w.alloc (.map es c))=.ok () (w.alloc (.map (es.push ⟨.string k,v,c⟩) (c+1))):=by
 rw[qmi ht hk (heap_alloc w _).1 hf]
 congr 1
 simp only[World.alloc]
 congr 1
 apply Array.ext
 ·simp
 ·intro i h1 h2
  simp only[Array.size_setIfInBounds,Array.size_push] at h1
  rw[Array.getElem_setIfInBounds]
  by_cases hi:w.heap.size=i
  ·subst hi;simp
  ·rw[if_neg hi,Array.getElem_push_lt (by omega),Array.getElem_push_lt (by omega)]
  ·simp;omega
theorem qki {P:Program} {w:World} {t:TypeId}:(Instr.makeMap t none).run P w=.ok (.map (some w.heap.size)) (w.alloc (.map #[] 0)):=by
 simp[Instr.makeMap]
def stmN:List (List UInt8):=[[109,111,100,117,108,101],[103,111],[114,101,113,117,105,114,101],[101,120,99,108,117,100,101],[114,101,112,108,97,99,101],[114,101,116,114,97,99,116]]
def stmF:List FuncId:=[182,183,184,185,186,187]
def stmE (u:Value):Array MapEntry:=#[⟨.string ⟨#[109,111,100,117,108,101]⟩,.func (.func 182) #[u] #[],0⟩,⟨.string ⟨#[103,111]⟩,.func (.func 183) #[u] #[],1⟩,⟨.string ⟨#[114,101,113,117,105,114,101]⟩,.func (.func 184) #[u] #[],2⟩,⟨.string ⟨#[101,120,99,108,117,100,101]⟩,.func (.func 185) #[u] #[],3⟩,⟨.string ⟨#[114,101,112,108,97,99,101]⟩,.func (.func 186) #[u] #[],4⟩,⟨.string ⟨#[114,101,116,114,97,99,116]⟩,.func (.func 187) #[u] #[],5⟩]
set_option maxHeartbeats 2000000 in
set_option maxRecDepth 100000 in
theorem walk_statements (u:Value) (w:World) :
  Calls Tryz.prog 121 #[u] w fun e w'=>e=.returned (.map (some w.heap.size))∧w'=w.alloc (.map (stmE u) 6):=by
 have hu:Tryz.prog.underlying 187=some (.map 9 186):=by kernel_rfl
 have hk:Tryz.prog.underlying 9=some .string:=by kernel_rfl
 go_enter Tryz.func121,Tryz.ntmps121
 go_wp2
 rw[qki]
 simp only[Result.andThen]
 rw[Oper.upon_value]
 go_wp2
 rw[qas hu hk (by rfl)]
 simp only[Result.andThen]
 rw[Oper.upon_skip]
 go_wp2
 rw[qas hu hk (by rfl)]
 simp only[Result.andThen]
 rw[Oper.upon_skip]
 go_wp2
 rw[qas hu hk (by rfl)]
 simp only[Result.andThen]
 rw[Oper.upon_skip]
 go_wp2
 rw[qas hu hk (by rfl)]
 simp only[Result.andThen]
 rw[Oper.upon_skip]
 go_wp2
 rw[qas hu hk (by rfl)]
 simp only[Result.andThen]
 rw[Oper.upon_skip]
 go_wp2
 rw[qas hu hk (by rfl)]
 simp only[Result.andThen]
 rw[Oper.upon_skip]
 go_wp2
 go_ret
 exact⟨rfl,rfl⟩
noncomputable def statementsT:List AV→List (List AV)→Option (AV×List (List AV))
 | [.gp b i sh],s=>some (.mp stmN (stmF.map fun f=>.fb f [.gp b i sh]),s)
 | _,_=>none
theorem qhv {W0:World} {xs:List AV} {s:List (List AV)} {r:AV} {s':List (List AV)} (e:statementsT xs s=some (r,s')):ACalls Tryz.prog W0.heap.size W0 121 xs s r s':=by
 unfold statementsT at e
 split at e
 rotate_left
 ·cases e
 rename_i b i sh
 simp only[Option.some.injEq,Prod.mk.injEq] at e
 obtain⟨rfl,rfl⟩:=e
 intro T μ w vs hsz hW hs
 obtain⟨l⟩:=vs
 match l,hsz with
 | [u],_ =>
  have hru:Rep W0.heap.size μ w u (.gp b i sh):=(hs.tmp 0 (.gp b i sh) (by simp[params,look])).1
  refine (walk_statements u w).mono fun e w' hx=>?_
  obtain⟨rfl,rfl⟩:=hx
  have k1:=hs.alloc (.map (stmE u) 6)
  have x:=qbq (μ:=μ) (w:=w) hs.hB (.map (stmE u) 6)
  have hrep:Rep W0.heap.size μ (w.alloc (.map (stmE u) 6)) (.map (some w.heap.size)) (.mp stmN (stmF.map fun f=>.fb f [.gp b i sh])):=by
   refine .mp _ 6 (stmE u) _ _ (fun j=>.func (.func (stmF.getD j 0)) #[u] #[]) (heap_alloc w _).1 rfl rfl (fun j k hk=>?_) (fun c hc=>?_) (fun j c hc=>?_)
   ·match j,hk with
    | 0,hk=>injection hk with hk;subst hk;exact⟨0,rfl⟩
    | 1,hk=>injection hk with hk;subst hk;exact⟨1,rfl⟩
    | 2,hk=>injection hk with hk;subst hk;exact⟨2,rfl⟩
    | 3,hk=>injection hk with hk;subst hk;exact⟨3,rfl⟩
    | 4,hk=>injection hk with hk;subst hk;exact⟨4,rfl⟩
    | 5,hk=>injection hk with hk;subst hk;exact⟨5,rfl⟩
    | j+6,hk=>simp[stmN] at hk
   ·obtain⟨f,_,rfl⟩:=List.mem_map.1 hc;rfl
   ·rw[List.getElem?_map] at hc
    cases hf:stmF[j]? with
    | none=>rw[hf] at hc;cases hc
    | some f =>
     rw[hf] at hc
     simp only[Option.map_some,Option.some.injEq] at hc
     subst hc
     have:stmF.getD j 0=f:=by simp[List.getD_eq_getElem?_getD,hf]
     rw[this]
     refine .fb f #[u] _ rfl (fun c hc=>?_) (fun q c hc=>?_)
     ·simp at hc;subst hc;exact⟨rfl,rfl⟩
     ·cases q with
      | zero=>simp at hc;subst hc;exact hru.mono x
      | succ q=>simp at hc
  exact⟨_,μ,rfl,k1.out (.mk' ⟨hrep,trivial⟩ fun j=>by cases j<;>rfl) (by simp) hs.mdf⟩
end Go.Proofs.Tryz.Ai
end
section
namespace Go.Proofs.Tryz.Ai
open Go Go.AI Go.Proofs
attribute [simp] List.getElem?_cons_zero List.getElem?_cons_succ
def hk (vars conds steal:List Nat) (live:List (Nat×List Nat)) (roots:List (Nat×Nat):=[]) (glob sw msd:List Nat:=[]) (alt:List (Nat×Nat):=[]) (fz:Nat:=0) (gc wk rt:Bool:=false) (inv:List (Nat×FuncId):=[]) (mv:List (Nat×Nat):=[]) (ad:List Nat:=[]):Hint:={rets:=true,vars:=vars,conds:=conds,steal:=steal,live:=live,roots:=roots,glob:=glob,sw:=sw,msd:=msd,alt:=alt,fz:=fz,gc:=gc,wk:=wk,rt:=rt,inv:=inv,mv:=mv,ad:=ad}
abbrev HF (h:Hint) (vars conds steal:List Nat) (live:List (Nat×List Nat)) (roots:List (Nat×Nat):=[]) (glob sw msd:List Nat:=[]) (alt:List (Nat×Nat):=[]) (fz:Nat:=0) (gc wk rt:Bool:=false) (inv:List (Nat×FuncId):=[]) (mv:List (Nat×Nat):=[]) (ad:List Nat:=[]):Prop:=h.rets=true∧h.vars=vars∧h.conds=conds∧h.steal=steal∧h.live=live∧h.roots=roots∧h.glob=glob∧h.sw=sw∧h.msd=msd∧h.alt=alt∧h.fz=fz∧h.gc=gc∧h.wk=wk∧h.rt=rt∧h.inv=inv∧h.mv=mv∧h.ad=ad
abbrev TF (t:TypeId) (n b:Nat) (g:Bool) (e:Option TypeId):Prop:=sizeA Tryz.prog t=some n∧bytesA Tryz.prog t=some b∧isAggA Tryz.prog t=some g∧elemA Tryz.prog t=e
@[simp] theorem t1f:TF 1 1 8 false none:=by and_intros<;>kernel_rfl
@[simp] theorem zero1:zeroA Tryz.prog 1=some .nilf:=by kernel_rfl
@[simp] theorem t3f:TF 3 1 8 false none:=by and_intros<;>kernel_rfl
@[simp] theorem zero3:zeroA Tryz.prog 3=some (.int .i64 0):=by kernel_rfl
@[simp] theorem und3:Tryz.prog.underlying 3=some (.int .i64):=by kernel_rfl
@[simp] theorem t4f:TF 4 1 1 false none:=by and_intros<;>kernel_rfl
@[simp] theorem zero4:zeroA Tryz.prog 4=some (.bool false):=by kernel_rfl
@[simp] theorem und4:Tryz.prog.underlying 4=some .bool:=by kernel_rfl
@[simp] theorem t5f:TF 5 1 1 false none:=by and_intros<;>kernel_rfl
@[simp] theorem zero5:zeroA Tryz.prog 5=some (.int .u8 0):=by kernel_rfl
@[simp] theorem und5:Tryz.prog.underlying 5=some (.int .u8):=by kernel_rfl
@[simp] theorem t9f:TF 9 1 16 false none:=by and_intros<;>kernel_rfl
@[simp] theorem zero9:zeroA Tryz.prog 9=some (.str []):=by kernel_rfl
@[simp] theorem und9:Tryz.prog.underlying 9=some .string:=by kernel_rfl
@[simp] theorem t20f:TF 20 1 16 false none:=by and_intros<;>kernel_rfl
@[simp] theorem zero20:zeroA Tryz.prog 20=some .nili:=by kernel_rfl
@[simp] theorem t22f:TF 22 1 24 false (some 49):=by and_intros<;>kernel_rfl
@[simp] theorem zero22:zeroA Tryz.prog 22=some (.sl .nil []):=by kernel_rfl
@[simp] theorem und22:Tryz.prog.underlying 22=some (.slice 49):=by kernel_rfl
@[simp] theorem t23f:TF 23 1 24 false (some 55):=by and_intros<;>kernel_rfl
@[simp] theorem zero23:zeroA Tryz.prog 23=some (.sl .nil []):=by kernel_rfl
@[simp] theorem und23:Tryz.prog.underlying 23=some (.slice 55):=by kernel_rfl
@[simp] theorem t24f:TF 24 1 24 false (some 57):=by and_intros<;>kernel_rfl
@[simp] theorem zero24:zeroA Tryz.prog 24=some (.sl .nil []):=by kernel_rfl
@[simp] theorem und24:Tryz.prog.underlying 24=some (.slice 57):=by kernel_rfl
@[simp] theorem t25f:TF 25 1 24 false (some 53):=by and_intros<;>kernel_rfl
@[simp] theorem zero25:zeroA Tryz.prog 25=some (.sl .nil []):=by kernel_rfl
@[simp] theorem und25:Tryz.prog.underlying 25=some (.slice 53):=by kernel_rfl
@[simp] theorem t27f:TF 27 6 128 true none:=by and_intros<;>kernel_rfl
@[simp] theorem zero27:zeroA Tryz.prog 27=some (.agg [(.str []),(.str []),(.sl .nil []),(.sl .nil []),(.sl .nil []),(.sl .nil [])]):=by kernel_rfl
@[simp] theorem bpl27:buildPl Tryz.prog 27=some (fun i=>[(0,1),(1,1),(2,1),(3,1),(4,1),(5,1)][i]?):=by kernel_rfl
@[simp] theorem t30f:TF 30 1 8 false none:=by and_intros<;>kernel_rfl
@[simp] theorem zero30:zeroA Tryz.prog 30=some (.int .i64 0):=by kernel_rfl
@[simp] theorem und30:Tryz.prog.underlying 30=some (.int .i64):=by kernel_rfl
@[simp] theorem t49f:TF 49 3 40 true none:=by and_intros<;>kernel_rfl
@[simp] theorem zero49:zeroA Tryz.prog 49=some (.agg [(.str []),(.str []),(.bool false)]):=by kernel_rfl
@[simp] theorem bpl49:buildPl Tryz.prog 49=some (fun i=>[(0,1),(1,1),(2,1)][i]?):=by kernel_rfl
@[simp] theorem t53f:TF 53 2 32 true none:=by and_intros<;>kernel_rfl
@[simp] theorem zero53:zeroA Tryz.prog 53=some (.agg [(.str []),(.str [])]):=by kernel_rfl
@[simp] theorem bpl53:buildPl Tryz.prog 53=some (fun i=>[(0,1),(1,1)][i]?):=by kernel_rfl
@[simp] theorem t55f:TF 55 2 32 true none:=by and_intros<;>kernel_rfl
@[simp] theorem zero55:zeroA Tryz.prog 55=some (.agg [(.str []),(.str [])]):=by kernel_rfl
@[simp] theorem bpl55:buildPl Tryz.prog 55=some (fun i=>[(0,1),(1,1)][i]?):=by kernel_rfl
@[simp] theorem t57f:TF 57 4 64 true none:=by and_intros<;>kernel_rfl
@[simp] theorem zero57:zeroA Tryz.prog 57=some (.agg [(.str []),(.str []),(.str []),(.str [])]):=by kernel_rfl
@[simp] theorem bpl57:buildPl Tryz.prog 57=some (fun i=>[(0,2),(2,2)][i]?):=by kernel_rfl
@[simp] theorem t58f:TF 58 1 24 false (some 9):=by and_intros<;>kernel_rfl
@[simp] theorem zero58:zeroA Tryz.prog 58=some (.sl .nil []):=by kernel_rfl
@[simp] theorem und58:Tryz.prog.underlying 58=some (.slice 9):=by kernel_rfl
@[simp] theorem t84f:TF 84 1 8 false none:=by and_intros<;>kernel_rfl
@[simp] theorem zero84:zeroA Tryz.prog 84=some .nilp:=by kernel_rfl
@[simp] theorem t85f:TF 85 1 24 false (some 5):=by and_intros<;>kernel_rfl
@[simp] theorem zero85:zeroA Tryz.prog 85=some (.sl .nil []):=by kernel_rfl
@[simp] theorem und85:Tryz.prog.underlying 85=some (.slice 5):=by kernel_rfl
@[simp] theorem t87f:TF 87 2 32 true none:=by and_intros<;>kernel_rfl
@[simp] theorem zero87:zeroA Tryz.prog 87=some (.agg [.nilp,(.sl .nil [])]):=by kernel_rfl
@[simp] theorem bpl87:buildPl Tryz.prog 87=some (fun i=>[(0,1),(1,1)][i]?):=by kernel_rfl
@[simp] theorem t89f:TF 89 1 16 false none:=by and_intros<;>kernel_rfl
@[simp] theorem zero89:zeroA Tryz.prog 89=some .nili:=by kernel_rfl
@[simp] theorem t93f:TF 93 1 8 false none:=by and_intros<;>kernel_rfl
@[simp] theorem zero93:zeroA Tryz.prog 93=some .nilf:=by kernel_rfl
@[simp] theorem t95f:TF 95 1 8 false none:=by and_intros<;>kernel_rfl
@[simp] theorem zero95:zeroA Tryz.prog 95=some .nilf:=by kernel_rfl
@[simp] theorem t98f:TF 98 1 8 false none:=by and_intros<;>kernel_rfl
@[simp] theorem zero98:zeroA Tryz.prog 98=some .nilf:=by kernel_rfl
@[simp] theorem t100f:TF 100 1 8 false none:=by and_intros<;>kernel_rfl
@[simp] theorem zero100:zeroA Tryz.prog 100=some .nilf:=by kernel_rfl
@[simp] theorem t104f:TF 104 2 16 true none:=by and_intros<;>kernel_rfl
@[simp] theorem zero104:zeroA Tryz.prog 104=some (.agg [(.int .i64 0),(.int .i64 0)]):=by kernel_rfl
@[simp] theorem bpl104:buildPl Tryz.prog 104=some (fun i=>[(0,1),(1,1)][i]?):=by kernel_rfl
@[simp] theorem t105f:TF 105 1 8 false none:=by and_intros<;>kernel_rfl
@[simp] theorem zero105:zeroA Tryz.prog 105=some .nilp:=by kernel_rfl
@[simp] theorem t107f:TF 107 10 160 true none:=by and_intros<;>kernel_rfl
@[simp] theorem zero107:zeroA Tryz.prog 107=some (.agg [(.str []),(.str []),(.sl .nil []),(.sl .nil []),(.sl .nil []),(.sl .nil []),(.int .i64 0),(.str []),(.bool false),(.bool false)]):=by kernel_rfl
@[simp] theorem bpl107:buildPl Tryz.prog 107=some (fun i=>[(0,6),(6,1),(7,1),(8,1),(9,1)][i]?):=by kernel_rfl
@[simp] theorem t116f:TF 116 1 8 false none:=by and_intros<;>kernel_rfl
@[simp] theorem zero116:zeroA Tryz.prog 116=some .nilf:=by kernel_rfl
@[simp] theorem t117f:TF 117 1 8 false none:=by and_intros<;>kernel_rfl
@[simp] theorem zero117:zeroA Tryz.prog 117=some .nilf:=by kernel_rfl
@[simp] theorem t120f:TF 120 1 8 false none:=by and_intros<;>kernel_rfl
@[simp] theorem zero120:zeroA Tryz.prog 120=some .nilf:=by kernel_rfl
@[simp] theorem t122f:TF 122 1 8 false none:=by and_intros<;>kernel_rfl
@[simp] theorem zero122:zeroA Tryz.prog 122=some .nilf:=by kernel_rfl
@[simp] theorem t129f:TF 129 1 8 false none:=by and_intros<;>kernel_rfl
@[simp] theorem zero129:zeroA Tryz.prog 129=some .nilf:=by kernel_rfl
@[simp] theorem t131f:TF 131 1 8 false none:=by and_intros<;>kernel_rfl
@[simp] theorem zero131:zeroA Tryz.prog 131=some .nilf:=by kernel_rfl
@[simp] theorem t133f:TF 133 1 8 false none:=by and_intros<;>kernel_rfl
@[simp] theorem zero133:zeroA Tryz.prog 133=some .nilf:=by kernel_rfl
@[simp] theorem t135f:TF 135 1 8 false none:=by and_intros<;>kernel_rfl
@[simp] theorem zero135:zeroA Tryz.prog 135=some .nilf:=by kernel_rfl
@[simp] theorem t136f:TF 136 1 8 false none:=by and_intros<;>kernel_rfl
@[simp] theorem zero136:zeroA Tryz.prog 136=some .nilf:=by kernel_rfl
@[simp] theorem t138f:TF 138 1 8 false none:=by and_intros<;>kernel_rfl
@[simp] theorem zero138:zeroA Tryz.prog 138=some .nilf:=by kernel_rfl
@[simp] theorem t139f:TF 139 1 8 false none:=by and_intros<;>kernel_rfl
@[simp] theorem zero139:zeroA Tryz.prog 139=some .nilf:=by kernel_rfl
@[simp] theorem t149f:TF 149 1 8 false none:=by and_intros<;>kernel_rfl
@[simp] theorem zero149:zeroA Tryz.prog 149=some .nilf:=by kernel_rfl
@[simp] theorem t182f:TF 182 1 24 false (some 190):=by and_intros<;>kernel_rfl
@[simp] theorem zero182:zeroA Tryz.prog 182=some (.sl .nil []):=by kernel_rfl
@[simp] theorem und182:Tryz.prog.underlying 182=some (.slice 190):=by kernel_rfl
@[simp] theorem t186f:TF 186 1 8 false none:=by and_intros<;>kernel_rfl
@[simp] theorem zero186:zeroA Tryz.prog 186=some .nilf:=by kernel_rfl
@[simp] theorem t187f:TF 187 1 8 false none:=by and_intros<;>kernel_rfl
@[simp] theorem t190f:TF 190 2 24 true none:=by and_intros<;>kernel_rfl
@[simp] theorem zero190:zeroA Tryz.prog 190=some (.agg [(.int .u8 0),(.str [])]):=by kernel_rfl
@[simp] theorem bpl190:buildPl Tryz.prog 190=some (fun i=>[(0,1),(1,1)][i]?):=by kernel_rfl
@[simp] theorem t192f:TF 192 1 8 false none:=by and_intros<;>kernel_rfl
@[simp] theorem zero192:zeroA Tryz.prog 192=some .nilf:=by kernel_rfl
@[simp] theorem t195f:TF 195 1 24 false (some 3):=by and_intros<;>kernel_rfl
@[simp] theorem zero195:zeroA Tryz.prog 195=some (.sl .nil []):=by kernel_rfl
@[simp] theorem und195:Tryz.prog.underlying 195=some (.slice 3):=by kernel_rfl
@[simp] theorem t197f:TF 197 4 40 true none:=by and_intros<;>kernel_rfl
@[simp] theorem zero197:zeroA Tryz.prog 197=some (.agg [(.int .i64 0),(.int .i64 0),(.int .i64 0),(.str [])]):=by kernel_rfl
@[simp] theorem bpl197:buildPl Tryz.prog 197=some (fun i=>[(0,1),(1,1),(2,1),(3,1)][i]?):=by kernel_rfl
@[simp] theorem t204f:TF 204 1 24 false (some 30):=by and_intros<;>kernel_rfl
@[simp] theorem zero204:zeroA Tryz.prog 204=some (.sl .nil []):=by kernel_rfl
@[simp] theorem und204:Tryz.prog.underlying 204=some (.slice 30):=by kernel_rfl
@[simp] theorem t205f:TF 205 1 8 false none:=by and_intros<;>kernel_rfl
@[simp] theorem zero205:zeroA Tryz.prog 205=some .nilf:=by kernel_rfl
@[simp] theorem t211f:TF 211 1 8 false none:=by and_intros<;>kernel_rfl
@[simp] theorem zero211:zeroA Tryz.prog 211=some .nilf:=by kernel_rfl
@[simp] theorem t214f:TF 214 1 8 false none:=by and_intros<;>kernel_rfl
@[simp] theorem zero214:zeroA Tryz.prog 214=some .nilf:=by kernel_rfl
@[simp] theorem t262f:TF 262 1 8 false none:=by and_intros<;>kernel_rfl
@[simp] theorem zero262:zeroA Tryz.prog 262=some (.int .u64 0):=by kernel_rfl
@[simp] theorem und262:Tryz.prog.underlying 262=some (.int .u64):=by kernel_rfl
@[simp] theorem field27x0:fieldA Tryz.prog 27 0=some (0,9):=by kernel_rfl
@[simp] theorem field27x1:fieldA Tryz.prog 27 1=some (1,9):=by kernel_rfl
@[simp] theorem field27x2:fieldA Tryz.prog 27 2=some (2,22):=by kernel_rfl
@[simp] theorem field27x3:fieldA Tryz.prog 27 3=some (3,23):=by kernel_rfl
@[simp] theorem field27x4:fieldA Tryz.prog 27 4=some (4,24):=by kernel_rfl
@[simp] theorem field27x5:fieldA Tryz.prog 27 5=some (5,25):=by kernel_rfl
@[simp] theorem field49x0:fieldA Tryz.prog 49 0=some (0,9):=by kernel_rfl
@[simp] theorem field49x1:fieldA Tryz.prog 49 1=some (1,9):=by kernel_rfl
@[simp] theorem field49x2:fieldA Tryz.prog 49 2=some (2,4):=by kernel_rfl
@[simp] theorem field53x0:fieldA Tryz.prog 53 0=some (0,9):=by kernel_rfl
@[simp] theorem field53x1:fieldA Tryz.prog 53 1=some (1,9):=by kernel_rfl
@[simp] theorem field55x0:fieldA Tryz.prog 55 0=some (0,9):=by kernel_rfl
@[simp] theorem field55x1:fieldA Tryz.prog 55 1=some (1,9):=by kernel_rfl
@[simp] theorem field57x0:fieldA Tryz.prog 57 0=some (0,55):=by kernel_rfl
@[simp] theorem field57x1:fieldA Tryz.prog 57 1=some (2,55):=by kernel_rfl
@[simp] theorem field87x1:fieldA Tryz.prog 87 1=some (1,85):=by kernel_rfl
@[simp] theorem field104x0:fieldA Tryz.prog 104 0=some (0,3):=by kernel_rfl
@[simp] theorem field104x1:fieldA Tryz.prog 104 1=some (1,30):=by kernel_rfl
@[simp] theorem field107x0:fieldA Tryz.prog 107 0=some (0,27):=by kernel_rfl
@[simp] theorem field107x1:fieldA Tryz.prog 107 1=some (6,3):=by kernel_rfl
@[simp] theorem field107x2:fieldA Tryz.prog 107 2=some (7,9):=by kernel_rfl
@[simp] theorem field107x3:fieldA Tryz.prog 107 3=some (8,4):=by kernel_rfl
@[simp] theorem field107x4:fieldA Tryz.prog 107 4=some (9,4):=by kernel_rfl
@[simp] theorem field190x0:fieldA Tryz.prog 190 0=some (0,5):=by kernel_rfl
@[simp] theorem field190x1:fieldA Tryz.prog 190 1=some (1,9):=by kernel_rfl
@[simp] theorem field197x0:fieldA Tryz.prog 197 0=some (0,3):=by kernel_rfl
@[simp] theorem field197x1:fieldA Tryz.prog 197 1=some (1,3):=by kernel_rfl
@[simp] theorem field197x2:fieldA Tryz.prog 197 2=some (2,3):=by kernel_rfl
@[simp] theorem field197x3:fieldA Tryz.prog 197 3=some (3,9):=by kernel_rfl
@[simp] theorem func1:isFuncT Tryz.prog 1=true:=by kernel_rfl
@[simp] theorem iface20:isIface Tryz.prog 20=true:=by kernel_rfl
@[simp] theorem iface89:isIface Tryz.prog 89=true:=by kernel_rfl
@[simp] theorem func93:isFuncT Tryz.prog 93=true:=by kernel_rfl
@[simp] theorem func95:isFuncT Tryz.prog 95=true:=by kernel_rfl
@[simp] theorem func98:isFuncT Tryz.prog 98=true:=by kernel_rfl
@[simp] theorem func100:isFuncT Tryz.prog 100=true:=by kernel_rfl
@[simp] theorem func116:isFuncT Tryz.prog 116=true:=by kernel_rfl
@[simp] theorem func117:isFuncT Tryz.prog 117=true:=by kernel_rfl
@[simp] theorem func120:isFuncT Tryz.prog 120=true:=by kernel_rfl
@[simp] theorem func122:isFuncT Tryz.prog 122=true:=by kernel_rfl
@[simp] theorem func129:isFuncT Tryz.prog 129=true:=by kernel_rfl
@[simp] theorem func131:isFuncT Tryz.prog 131=true:=by kernel_rfl
@[simp] theorem func133:isFuncT Tryz.prog 133=true:=by kernel_rfl
@[simp] theorem func135:isFuncT Tryz.prog 135=true:=by kernel_rfl
@[simp] theorem func136:isFuncT Tryz.prog 136=true:=by kernel_rfl
@[simp] theorem func138:isFuncT Tryz.prog 138=true:=by kernel_rfl
@[simp] theorem func139:isFuncT Tryz.prog 139=true:=by kernel_rfl
@[simp] theorem func149:isFuncT Tryz.prog 149=true:=by kernel_rfl
@[simp] theorem func186:isFuncT Tryz.prog 186=true:=by kernel_rfl
@[simp] theorem func192:isFuncT Tryz.prog 192=true:=by kernel_rfl
@[simp] theorem func205:isFuncT Tryz.prog 205=true:=by kernel_rfl
@[simp] theorem func211:isFuncT Tryz.prog 211=true:=by kernel_rfl
@[simp] theorem func214:isFuncT Tryz.prog 214=true:=by kernel_rfl
@[simp] theorem eqs53:eqShape Tryz.prog 53=some [.str,.str]:=by kernel_rfl
@[simp] theorem eqs55:eqShape Tryz.prog 55=some [.str,.str]:=by kernel_rfl
def h7:Hint:=hk [0,2,3,5,6,7,8,9,11,12] [20,42,46] [16,21,22,27,28,30,33,37,47,49,56,57,61,65,69,70,71,73,74] [(10,[5,7,8,9])]
@[simp] theorem h7f:HF h7 [0,2,3,5,6,7,8,9,11,12] [20,42,46] [16,21,22,27,28,30,33,37,47,49,56,57,61,65,69,70,71,73,74] [(10,[5,7,8,9])]:=by and_intros<;>rfl
def h12:Hint:=hk [0,1,2,3,4,5,7,8] [] [9,13,14,18,19,23,24,26,27,31,32,36,37,40,41,44,45] []
@[simp] theorem h12f:HF h12 [0,1,2,3,4,5,7,8] [] [9,13,14,18,19,23,24,26,27,31,32,36,37,40,41,44,45] []:=by and_intros<;>rfl
def h14:Hint:=hk [0,1,2,3,4,5] [9,20,39] [10] [] (glob:=[5]) (gc:=true)
@[simp] theorem h14f:HF h14 [0,1,2,3,4,5] [9,20,39] [10] [] (glob:=[5]) (gc:=true):=by and_intros<;>rfl
def h15:Hint:=hk [0,2] [] [3] []
@[simp] theorem h15f:HF h15 [0,2] [] [3] []:=by and_intros<;>rfl
def h16:Hint:=hk [0,2,3,4,5,6,7,8] [12,19] [17,20,21,25,27,29,32] [(6,[2,3,4,5,6])] (glob:=[2,3,4,16]) (gc:=true)
@[simp] theorem h16f:HF h16 [0,2,3,4,5,6,7,8] [12,19] [17,20,21,25,27,29,32] [(6,[2,3,4,5,6])] (glob:=[2,3,4,16]) (gc:=true):=by and_intros<;>rfl
def h18:Hint:=hk [0,1,2] [] [] [] (roots:=[(3,1),(6,1),(9,1),(12,1),(15,1),(16,1),(17,1),(18,1)]) (sw:=[5,11,14]) (alt:=[(5,1),(11,1),(14,1)]) (fz:=1) (gc:=true)
@[simp] theorem h18f:HF h18 [0,1,2] [] [] [] (roots:=[(3,1),(6,1),(9,1),(12,1),(15,1),(16,1),(17,1),(18,1)]) (sw:=[5,11,14]) (alt:=[(5,1),(11,1),(14,1)]) (fz:=1) (gc:=true):=by and_intros<;>rfl
def h19:Hint:=hk [0,1,2,4,5,6,7,8,9,10,50,51,52] [47,53,80] [11,16,48,75,81] [(7,[1,50,51,52])] (roots:=[(30,1),(33,1),(57,1),(61,8),(66,8),(68,1),(83,1),(86,1),(89,1)]) (sw:=[63,64]) (gc:=true)
@[simp] theorem h19f:HF h19 [0,1,2,4,5,6,7,8,9,10,50,51,52] [47,53,80] [11,16,48,75,81] [(7,[1,50,51,52])] (roots:=[(30,1),(33,1),(57,1),(61,8),(66,8),(68,1),(83,1),(86,1),(89,1)]) (sw:=[63,64]) (gc:=true):=by and_intros<;>rfl
def h23:Hint:=hk [0,1,4,5,6,7] [11,24] [12,18,25,27,34] [(4,[0,1,5,6,7])]
@[simp] theorem h23f:HF h23 [0,1,4,5,6,7] [11,24] [12,18,25,27,34] [(4,[0,1,5,6,7])]:=by and_intros<;>rfl
def h37:Hint:=hk [0,1,4,5] [] [9,17] [] (msd:=[12])
@[simp] theorem h37f:HF h37 [0,1,4,5] [] [9,17] [] (msd:=[12]):=by and_intros<;>rfl
def h38:Hint:=hk [0,1,2,3,9,18,19,20] [12,21] [14,18,32] [(3,[0,3,18,19,20])] (gc:=true)
@[simp] theorem h38f:HF h38 [0,1,2,3,9,18,19,20] [12,21] [14,18,32] [(3,[0,3,18,19,20])] (gc:=true):=by and_intros<;>rfl
def h39:Hint:=hk [0,1,2] [4] [] []
@[simp] theorem h39f:HF h39 [0,1,2] [4] [] []:=by and_intros<;>rfl
def h40:Hint:=hk [0,1,2] [5] [] []
@[simp] theorem h40f:HF h40 [0,1,2] [5] [] []:=by and_intros<;>rfl
def h41:Hint:=hk [0,1,2] [] [] []
@[simp] theorem h41f:HF h41 [0,1,2] [] [] []:=by and_intros<;>rfl
def h42:Hint:=hk [0,1,2,3,9,18,19,20] [12,21] [14,18,32] [(3,[0,3,18,19,20])] (gc:=true)
@[simp] theorem h42f:HF h42 [0,1,2,3,9,18,19,20] [12,21] [14,18,32] [(3,[0,3,18,19,20])] (gc:=true):=by and_intros<;>rfl
def h43:Hint:=hk [0,1,2,3,9,18,19,20] [12,21] [14,18,32] [(3,[0,3,18,19,20])] (gc:=true)
@[simp] theorem h43f:HF h43 [0,1,2,3,9,18,19,20] [12,21] [14,18,32] [(3,[0,3,18,19,20])] (gc:=true):=by and_intros<;>rfl
def h44:Hint:=hk [0,1,2] [] [] [] (roots:=[(3,1),(7,1)]) (sw:=[5,9])
@[simp] theorem h44f:HF h44 [0,1,2] [] [] [] (roots:=[(3,1),(7,1)]) (sw:=[5,9]):=by and_intros<;>rfl
def h45:Hint:=hk [0,1,2,3,9,18,19,20] [12,21] [14,18,32] [(3,[0,3,18,19,20])] (gc:=true)
@[simp] theorem h45f:HF h45 [0,1,2,3,9,18,19,20] [12,21] [14,18,32] [(3,[0,3,18,19,20])] (gc:=true):=by and_intros<;>rfl
def h46:Hint:=hk [0,1,2] [7] [] []
@[simp] theorem h46f:HF h46 [0,1,2] [7] [] []:=by and_intros<;>rfl
def h47:Hint:=hk [0,2] [] [3] []
@[simp] theorem h47f:HF h47 [0,2] [] [3] []:=by and_intros<;>rfl
def h49:Hint:=hk [0,1,2,4,5,6,11] [8,10] [7,11] [] (roots:=[(13,4),(15,4)]) (sw:=[0,1,2])
@[simp] theorem h49f:HF h49 [0,1,2,4,5,6,11] [8,10] [7,11] [] (roots:=[(13,4),(15,4)]) (sw:=[0,1,2]):=by and_intros<;>rfl
def h51:Hint:=hk [0,1,4,6,8,9,11] [42,47,53,98] [25,26,30,32,38,48,52,53,54,78,83,84,85,92,99,100,106,107] [] (sw:=[65]) (gc:=true)
@[simp] theorem h51f:HF h51 [0,1,4,6,8,9,11] [42,47,53,98] [25,26,30,32,38,48,52,53,54,78,83,84,85,92,99,100,106,107] [] (sw:=[65]) (gc:=true):=by and_intros<;>rfl
def h52:Hint:=hk [0] [] [] [] (sw:=[39]) (gc:=true) (ad:=[39])
@[simp] theorem h52f:HF h52 [0] [] [] [] (sw:=[39]) (gc:=true) (ad:=[39]):=by and_intros<;>rfl
def h53:Hint:=hk [0,2] [] [6] []
@[simp] theorem h53f:HF h53 [0,2] [] [6] []:=by and_intros<;>rfl
def h54:Hint:=hk [0,2] [] [3] []
@[simp] theorem h54f:HF h54 [0,2] [] [3] []:=by and_intros<;>rfl
def h55:Hint:=hk [0,2] [] [6] []
@[simp] theorem h55f:HF h55 [0,2] [] [6] []:=by and_intros<;>rfl
def h56:Hint:=hk [0,2] [] [6] []
@[simp] theorem h56f:HF h56 [0,2] [] [6] []:=by and_intros<;>rfl
def h57:Hint:=hk [0,1] [] [5,7] []
@[simp] theorem h57f:HF h57 [0,1] [] [5,7] []:=by and_intros<;>rfl
def h58:Hint:=hk [0,1,2,3,4] [] [] []
@[simp] theorem h58f:HF h58 [0,1,2,3,4] [] [] []:=by and_intros<;>rfl
def h59:Hint:=hk [0,1,4] [] [5,6] []
@[simp] theorem h59f:HF h59 [0,1,4] [] [5,6] []:=by and_intros<;>rfl
def h60:Hint:=hk [0,1] [] [5,7] []
@[simp] theorem h60f:HF h60 [0,1] [] [5,7] []:=by and_intros<;>rfl
def h61:Hint:=hk [0,1,2,3,4] [] [] [] (roots:=[(6,2),(9,3),(13,2),(16,3)]) (sw:=[18])
@[simp] theorem h61f:HF h61 [0,1,2,3,4] [] [] [] (roots:=[(6,2),(9,3),(13,2),(16,3)]) (sw:=[18]):=by and_intros<;>rfl
def h62:Hint:=hk [0,2,3,5,6,7,8] [9,14] [6,15,17] [(3,[3,6,7,8])]
@[simp] theorem h62f:HF h62 [0,2,3,5,6,7,8] [9,14] [6,15,17] [(3,[3,6,7,8])]:=by and_intros<;>rfl
def h63:Hint:=hk [0,1,4,5,6,7,8] [19,29,32] [9,13,14,18,22,26,27,30,33] [] (roots:=[(35,5),(37,7),(40,5),(42,7),(45,5),(47,7),(50,5),(52,7)])
@[simp] theorem h63f:HF h63 [0,1,4,5,6,7,8] [19,29,32] [9,13,14,18,22,26,27,30,33] [] (roots:=[(35,5),(37,7),(40,5),(42,7),(45,5),(47,7),(50,5),(52,7)]):=by and_intros<;>rfl
def h64:Hint:=hk [0,1] [] [5,7] []
@[simp] theorem h64f:HF h64 [0,1] [] [5,7] []:=by and_intros<;>rfl
def h65:Hint:=hk [0,1,2,3,4] [] [] [] (roots:=[(5,2),(7,3),(10,2),(12,3)]) (sw:=[14])
@[simp] theorem h65f:HF h65 [0,1,2,3,4] [] [] [] (roots:=[(5,2),(7,3),(10,2),(12,3)]) (sw:=[14]):=by and_intros<;>rfl
def h66:Hint:=hk [0,2,3,4,5,6,7] [] [8,9,12,13,17,19,20,21,24,28,32,33,35] []
@[simp] theorem h66f:HF h66 [0,2,3,4,5,6,7] [] [8,9,12,13,17,19,20,21,24,28,32,33,35] []:=by and_intros<;>rfl
def h67:Hint:=hk [0,2,4,5,6,7] [8,12] [5,13] [(2,[5,6,7])]
@[simp] theorem h67f:HF h67 [0,2,4,5,6,7] [8,12] [5,13] [(2,[5,6,7])]:=by and_intros<;>rfl
def h68:Hint:=hk [0,2,3,5,6,7,9] [12,37,62] [13,18,23,28,30,33,34,43,44,47,48,49,54,55,59,60] [] (gc:=true)
@[simp] theorem h68f:HF h68 [0,2,3,5,6,7,9] [12,37,62] [13,18,23,28,30,33,34,43,44,47,48,49,54,55,59,60] [] (gc:=true):=by and_intros<;>rfl
def h69:Hint:=hk [0,1,4] [5] [5,6] []
@[simp] theorem h69f:HF h69 [0,1,4] [5] [5,6] []:=by and_intros<;>rfl
def h70:Hint:=hk [0,1,4] [] [5,6] []
@[simp] theorem h70f:HF h70 [0,1,4] [] [5,6] []:=by and_intros<;>rfl
def h71:Hint:=hk [0,1,2] [] [] [] (glob:=[1])
@[simp] theorem h71f:HF h71 [0,1,2] [] [] [] (glob:=[1]):=by and_intros<;>rfl
def h72:Hint:=hk [0,1,2,3] [8,13,19] [9] []
@[simp] theorem h72f:HF h72 [0,1,2,3] [8,13,19] [9] []:=by and_intros<;>rfl
def h73:Hint:=hk [0,1,2,6,7,8,9,10,11,12] [13,31] [32] [(2,[0,1,2,10,11,12])] (roots:=[(8,8)]) (sw:=[25]) (gc:=true)
@[simp] theorem h73f:HF h73 [0,1,2,6,7,8,9,10,11,12] [13,31] [32] [(2,[0,1,2,10,11,12])] (roots:=[(8,8)]) (sw:=[25]) (gc:=true):=by and_intros<;>rfl
def h74:Hint:=hk [0,1,2] [] [] [] (glob:=[1])
@[simp] theorem h74f:HF h74 [0,1,2] [] [] [] (glob:=[1]):=by and_intros<;>rfl
def h75:Hint:=hk [0,1,2,6,7,8,9,10,11,12] [13,31] [32] [(2,[0,1,2,10,11,12])] (roots:=[(8,8)]) (sw:=[25]) (gc:=true)
@[simp] theorem h75f:HF h75 [0,1,2,6,7,8,9,10,11,12] [13,31] [32] [(2,[0,1,2,10,11,12])] (roots:=[(8,8)]) (sw:=[25]) (gc:=true):=by and_intros<;>rfl
def h76:Hint:=hk [0,1,2,3] [11] [12,18] []
@[simp] theorem h76f:HF h76 [0,1,2,3] [11] [12,18] []:=by and_intros<;>rfl
def h77:Hint:=hk [0,1,2] [] [] []
@[simp] theorem h77f:HF h77 [0,1,2] [] [] []:=by and_intros<;>rfl
def h78:Hint:=hk [0,1,2,6,7,8,9,10,11,12] [13,31] [32] [(2,[0,1,2,10,11,12])] (roots:=[(8,8)]) (sw:=[25]) (gc:=true)
@[simp] theorem h78f:HF h78 [0,1,2,6,7,8,9,10,11,12] [13,31] [32] [(2,[0,1,2,10,11,12])] (roots:=[(8,8)]) (sw:=[25]) (gc:=true):=by and_intros<;>rfl
def h79:Hint:=hk [0,1,2] [] [] [] (roots:=[(3,1),(8,1),(14,1),(16,1)])
@[simp] theorem h79f:HF h79 [0,1,2] [] [] [] (roots:=[(3,1),(8,1),(14,1),(16,1)]):=by and_intros<;>rfl
def h80:Hint:=hk [0,1,2] [] [] [] (glob:=[1])
@[simp] theorem h80f:HF h80 [0,1,2] [] [] [] (glob:=[1]):=by and_intros<;>rfl
def h85:Hint:=hk [0,1,4,5,7,8] [9,16] [17] [(2,[0,1,7,8])] (gc:=true)
@[simp] theorem h85f:HF h85 [0,1,4,5,7,8] [9,16] [17] [(2,[0,1,7,8])] (gc:=true):=by and_intros<;>rfl
def h86:Hint:=hk [0,1,2] [] [] [] (glob:=[1])
@[simp] theorem h86f:HF h86 [0,1,2] [] [] [] (glob:=[1]):=by and_intros<;>rfl
def h91:Hint:=hk [0,1,4,5,7,8] [9,16] [17] [(2,[0,1,7,8])] (gc:=true)
@[simp] theorem h91f:HF h91 [0,1,4,5,7,8] [9,16] [17] [(2,[0,1,7,8])] (gc:=true):=by and_intros<;>rfl
def h117:Hint:=hk [0,1] [5] [6,10] []
@[simp] theorem h117f:HF h117 [0,1] [5] [6,10] []:=by and_intros<;>rfl
def h119:Hint:=hk [0,1,4,5,6,7,8] [12,39,44,59,66,75] [21,27,33,40,47,56,69,73,79,80,84,86] [(3,[0,1,5,6]),(6,[0,1,5,6,8])] (glob:=[54,83]) (msd:=[54,83]) (fz:=2) (gc:=true)
@[simp] theorem h119f:HF h119 [0,1,4,5,6,7,8] [12,39,44,59,66,75] [21,27,33,40,47,56,69,73,79,80,84,86] [(3,[0,1,5,6]),(6,[0,1,5,6,8])] (glob:=[54,83]) (msd:=[54,83]) (fz:=2) (gc:=true):=by and_intros<;>rfl
def h120:Hint:=hk [0,1,4,5,6,7,8,14,15,16] [13,17,26,29] [14,30,36] [(5,[1,6,14,15,16])] (roots:=[(21,8)])
@[simp] theorem h120f:HF h120 [0,1,4,5,6,7,8,14,15,16] [13,17,26,29] [14,30,36] [(5,[1,6,14,15,16])] (roots:=[(21,8)]):=by and_intros<;>rfl
def h122:Hint:=hk [0,1,4,5] [] [9,12,14] [] (glob:=[10]) (msd:=[10]) (fz:=2) (gc:=true)
@[simp] theorem h122f:HF h122 [0,1,4,5] [] [9,12,14] [] (glob:=[10]) (msd:=[10]) (fz:=2) (gc:=true):=by and_intros<;>rfl
def h123:Hint:=hk [0,1,2,3,4] [] [] [] (roots:=[(5,2),(7,3),(10,2),(12,3)]) (sw:=[14])
@[simp] theorem h123f:HF h123 [0,1,2,3,4] [] [] [] (roots:=[(5,2),(7,3),(10,2),(12,3)]) (sw:=[14]):=by and_intros<;>rfl
def h124:Hint:=hk [0,1,2,6,7,8,9] [13,30,35,54] [15,20,24,38,45,56,57,61] [(2,[0,1,2,6,7,8]),(7,[0,1,2,6]),(9,[0,1,2,6,7,8])]
@[simp] theorem h124f:HF h124 [0,1,2,6,7,8,9] [13,30,35,54] [15,20,24,38,45,56,57,61] [(2,[0,1,2,6,7,8]),(7,[0,1,2,6]),(9,[0,1,2,6,7,8])]:=by and_intros<;>rfl
def h126:Hint:=hk [0,1,2,6,7,8,9] [13,30,35,54] [15,20,24,38,45,56,57,61] [(2,[0,1,2,6,7,8]),(7,[0,1,2,6]),(9,[0,1,2,6,7,8])]
@[simp] theorem h126f:HF h126 [0,1,2,6,7,8,9] [13,30,35,54] [15,20,24,38,45,56,57,61] [(2,[0,1,2,6,7,8]),(7,[0,1,2,6]),(9,[0,1,2,6,7,8])]:=by and_intros<;>rfl
def h127:Hint:=hk [0,2,3,4,5,6,7,8,9,10,11,12,13] [21,34,74] [17,23,24,29,30,36,42,43,49,50,51,56,57,59,60,63,64,67,68,69,76,77,78,79] []
@[simp] theorem h127f:HF h127 [0,2,3,4,5,6,7,8,9,10,11,12,13] [21,34,74] [17,23,24,29,30,36,42,43,49,50,51,56,57,59,60,63,64,67,68,69,76,77,78,79] []:=by and_intros<;>rfl
def h128:Hint:=hk [0,1,4,5,6] [11,12,13,16,19] [11,12,13,17,18] []
@[simp] theorem h128f:HF h128 [0,1,4,5,6] [11,12,13,16,19] [11,12,13,17,18] []:=by and_intros<;>rfl
def h129:Hint:=hk [0,1,4] [10] [7,11,14,18,20] []
@[simp] theorem h129f:HF h129 [0,1,4] [10] [7,11,14,18,20] []:=by and_intros<;>rfl
def h130:Hint:=hk [0,1,2,6,7,8,9] [13,30,35,54] [15,20,24,38,45,56,57,61] [(2,[0,1,2,6,7,8]),(7,[0,1,2,6]),(9,[0,1,2,6,7,8])]
@[simp] theorem h130f:HF h130 [0,1,2,6,7,8,9] [13,30,35,54] [15,20,24,38,45,56,57,61] [(2,[0,1,2,6,7,8]),(7,[0,1,2,6]),(9,[0,1,2,6,7,8])]:=by and_intros<;>rfl
def h134:Hint:=hk [0,2] [] [5,9,10] []
@[simp] theorem h134f:HF h134 [0,2] [] [5,9,10] []:=by and_intros<;>rfl
def h135:Hint:=hk [0,2] [] [5,6] []
@[simp] theorem h135f:HF h135 [0,2] [] [5,6] []:=by and_intros<;>rfl
def h136:Hint:=hk [0,1,4,6,8,9,10] [11,30] [7,18,23,25] [(2,[1,8,9,10])]
@[simp] theorem h136f:HF h136 [0,1,4,6,8,9,10] [11,30] [7,18,23,25] [(2,[1,8,9,10])]:=by and_intros<;>rfl
def h137:Hint:=hk [0,1,2] [] [] [] (glob:=[1])
@[simp] theorem h137f:HF h137 [0,1,2] [] [] [] (glob:=[1]):=by and_intros<;>rfl
def h139:Hint:=hk [0,1,4,5] [9,16] [10] [(2,[0,1,5])] (gc:=true)
@[simp] theorem h139f:HF h139 [0,1,4,5] [9,16] [10] [(2,[0,1,5])] (gc:=true):=by and_intros<;>rfl
def h141:Hint:=hk [0,2,3,4,5,6,7,8] [12,36] [13,14,21,22,23,26,27,29,30,33,37,38,39,41] []
@[simp] theorem h141f:HF h141 [0,2,3,4,5,6,7,8] [12,36] [13,14,21,22,23,26,27,29,30,33,37,38,39,41] []:=by and_intros<;>rfl
def h142:Hint:=hk [0,1,4,5] [9,17] [10,18] [(2,[0,1,5])] (gc:=true)
@[simp] theorem h142f:HF h142 [0,1,4,5] [9,17] [10,18] [(2,[0,1,5])] (gc:=true):=by and_intros<;>rfl
def h143:Hint:=hk [0,2] [] [5,6] []
@[simp] theorem h143f:HF h143 [0,2] [] [5,6] []:=by and_intros<;>rfl
def h144:Hint:=hk [0,1,2,3] [] [] []
@[simp] theorem h144f:HF h144 [0,1,2,3] [] [] []:=by and_intros<;>rfl
def h145:Hint:=hk [0,2,4] [] [5,6,9,10] []
@[simp] theorem h145f:HF h145 [0,2,4] [] [5,6,9,10] []:=by and_intros<;>rfl
def h146:Hint:=hk [0,1,4,5,6,8] [] [9,10,13,14,15,18,19,20,25,26,28] []
@[simp] theorem h146f:HF h146 [0,1,4,5,6,8] [] [9,10,13,14,15,18,19,20,25,26,28] []:=by and_intros<;>rfl
def h147:Hint:=hk [0,1,4] [] [5,6] []
@[simp] theorem h147f:HF h147 [0,1,4] [] [5,6] []:=by and_intros<;>rfl
def h148:Hint:=hk [0,1,2,3] [] [] []
@[simp] theorem h148f:HF h148 [0,1,2,3] [] [] []:=by and_intros<;>rfl
def h149:Hint:=hk [0,1,4] [] [5,6] []
@[simp] theorem h149f:HF h149 [0,1,4] [] [5,6] []:=by and_intros<;>rfl
def h150:Hint:=hk [0,1,4] [] [5,6] []
@[simp] theorem h150f:HF h150 [0,1,4] [] [5,6] []:=by and_intros<;>rfl
def h151:Hint:=hk [0,1,2,3] [] [] []
@[simp] theorem h151f:HF h151 [0,1,2,3] [] [] []:=by and_intros<;>rfl
def h156:Hint:=hk [0,1,2,3] [] [] []
@[simp] theorem h156f:HF h156 [0,1,2,3] [] [] []:=by and_intros<;>rfl
def h181:Hint:=hk [0,1,4] [] [5,6] []
@[simp] theorem h181f:HF h181 [0,1,4] [] [5,6] []:=by and_intros<;>rfl
def h182:Hint:=hk [0,1,4] [] [6,22,23] []
@[simp] theorem h182f:HF h182 [0,1,4] [] [6,22,23] []:=by and_intros<;>rfl
def h183:Hint:=hk [0,1,4,6] [] [8,12,16,31,32] []
@[simp] theorem h183f:HF h183 [0,1,4,6] [] [8,12,16,31,32] []:=by and_intros<;>rfl
def h184:Hint:=hk [0,1,4,5] [] [7] [] (roots:=[(5,5),(37,5)]) (sw:=[39,50,56]) (msd:=[50]) (gc:=true) (ad:=[39])
@[simp] theorem h184f:HF h184 [0,1,4,5] [] [7] [] (roots:=[(5,5),(37,5)]) (sw:=[39,50,56]) (msd:=[50]) (gc:=true) (ad:=[39]):=by and_intros<;>rfl
def h185:Hint:=hk [0,1,4,5] [] [7] [] (roots:=[(5,5)]) (sw:=[43,49]) (msd:=[43])
@[simp] theorem h185f:HF h185 [0,1,4,5] [] [7] [] (roots:=[(5,5)]) (sw:=[43,49]) (msd:=[43]):=by and_intros<;>rfl
def h186:Hint:=hk [0,1,4,5,6] [12] [7,11,12,24] [] (roots:=[(6,6)]) (sw:=[58,69,75]) (msd:=[69]) (gc:=true) (ad:=[58])
@[simp] theorem h186f:HF h186 [0,1,4,5,6] [12] [7,11,12,24] [] (roots:=[(6,6)]) (sw:=[58,69,75]) (msd:=[69]) (gc:=true) (ad:=[58]):=by and_intros<;>rfl
def h187:Hint:=hk [0,1,4,5,6] [12] [7,11,12,21] [] (roots:=[(6,6)]) (sw:=[57,63]) (msd:=[57])
@[simp] theorem h187f:HF h187 [0,1,4,5,6] [12] [7,11,12,21] [] (roots:=[(6,6)]) (sw:=[57,63]) (msd:=[57]):=by and_intros<;>rfl
def h188:Hint:=hk [0,1] [] [5,7] []
@[simp] theorem h188f:HF h188 [0,1] [] [5,7] []:=by and_intros<;>rfl
def h189:Hint:=hk [0,1,2,3,8,9] [14,34] [15,35] [(1,[0,1,2,3,8]),(4,[0,1,2,3,8,9])] (sw:=[32,51,52]) (gc:=true)
@[simp] theorem h189f:HF h189 [0,1,2,3,8,9] [14,34] [15,35] [(1,[0,1,2,3,8]),(4,[0,1,2,3,8,9])] (sw:=[32,51,52]) (gc:=true):=by and_intros<;>rfl
def h190:Hint:=hk [0,1,2,3,4,10,11,12,13,14,15,16,17,18,19,20,21,22,23,24] [28,33,50,58,80,85,103,110,140,151,171,185,199,213] [29,30,51,53,54,59,81,104,106,107,111,172,174,175,181,188,195,201,202,209,214,215,216,217,218] [(3,[0,1,4,10,11]),(9,[0,10,13]),(15,[0,2,4,14,15]),(21,[0,14,17]),(33,[0,1,2,3,4,18,19,20,21,22])] (sw:=[49,75,76,101,127,128,169]) (gc:=true)
@[simp] theorem h190f:HF h190 [0,1,2,3,4,10,11,12,13,14,15,16,17,18,19,20,21,22,23,24] [28,33,50,58,80,85,103,110,140,151,171,185,199,213] [29,30,51,53,54,59,81,104,106,107,111,172,174,175,181,188,195,201,202,209,214,215,216,217,218] [(3,[0,1,4,10,11]),(9,[0,10,13]),(15,[0,2,4,14,15]),(21,[0,14,17]),(33,[0,1,2,3,4,18,19,20,21,22])] (sw:=[49,75,76,101,127,128,169]) (gc:=true):=by and_intros<;>rfl
def h192:Hint:=hk [0,1,2,3,8,9] [14,34] [15,35] [(1,[0,1,2,3,8]),(4,[0,1,2,3,8,9])] (sw:=[32,51,52]) (gc:=true)
@[simp] theorem h192f:HF h192 [0,1,2,3,8,9] [14,34] [15,35] [(1,[0,1,2,3,8]),(4,[0,1,2,3,8,9])] (sw:=[32,51,52]) (gc:=true):=by and_intros<;>rfl
def h193:Hint:=hk [0,1,2,3,4,10,11,12,13,14,15,16,17,18,19,20,21,22,23,24] [28,33,50,58,80,85,103,110,140,151,171,185,199,213] [29,30,51,53,54,59,81,104,106,107,111,172,174,175,181,188,195,201,202,209,214,215,216,217,218] [(3,[0,1,4,10,11]),(9,[0,10,13]),(15,[0,2,4,14,15]),(21,[0,14,17]),(33,[0,1,2,3,4,18,19,20,21,22])] (sw:=[49,75,76,101,127,128,169]) (gc:=true)
@[simp] theorem h193f:HF h193 [0,1,2,3,4,10,11,12,13,14,15,16,17,18,19,20,21,22,23,24] [28,33,50,58,80,85,103,110,140,151,171,185,199,213] [29,30,51,53,54,59,81,104,106,107,111,172,174,175,181,188,195,201,202,209,214,215,216,217,218] [(3,[0,1,4,10,11]),(9,[0,10,13]),(15,[0,2,4,14,15]),(21,[0,14,17]),(33,[0,1,2,3,4,18,19,20,21,22])] (sw:=[49,75,76,101,127,128,169]) (gc:=true):=by and_intros<;>rfl
def h196:Hint:=hk [0,2,3,4,5] [18] [9,14,19,20,23] []
@[simp] theorem h196f:HF h196 [0,2,3,4,5] [18] [9,14,19,20,23] []:=by and_intros<;>rfl
def h197:Hint:=hk [0,2,4,6,7,8] [9,24] [5,16,19,20] [(2,[6,7,8])] (gc:=true)
@[simp] theorem h197f:HF h197 [0,2,4,6,7,8] [9,24] [5,16,19,20] [(2,[6,7,8])] (gc:=true):=by and_intros<;>rfl
def h198:Hint:=hk [0,2] [] [4] []
@[simp] theorem h198f:HF h198 [0,2] [] [4] []:=by and_intros<;>rfl
def h199:Hint:=hk [0,1,2,6,7,8,9,10,11,12,13] [14,21,31,38] [23,27,28,32,34,36] [(2,[0,1,2,11,12,13])] (gc:=true)
@[simp] theorem h199f:HF h199 [0,1,2,6,7,8,9,10,11,12,13] [14,21,31,38] [23,27,28,32,34,36] [(2,[0,1,2,11,12,13])] (gc:=true):=by and_intros<;>rfl
def h200:Hint:=hk [0,1,4,5,6] [11,26,28] [13,21,22,27,29,30,31] []
@[simp] theorem h200f:HF h200 [0,1,4,5,6] [11,26,28] [13,21,22,27,29,30,31] []:=by and_intros<;>rfl
def h201:Hint:=hk [0,1,2,3,8,9] [14,34] [15,35] [(1,[0,1,2,3,8]),(4,[0,1,2,3,8,9])] (sw:=[32,51,52]) (gc:=true)
@[simp] theorem h201f:HF h201 [0,1,2,3,8,9] [14,34] [15,35] [(1,[0,1,2,3,8]),(4,[0,1,2,3,8,9])] (sw:=[32,51,52]) (gc:=true):=by and_intros<;>rfl
def h202:Hint:=hk [0,1,2,3,4,10,11,12,13,14,15,16,17,18,19,20,21,22,23,24] [28,33,50,58,80,85,103,110,140,151,171,185,199,213] [29,30,51,53,54,59,81,104,106,107,111,172,174,175,181,188,195,201,202,209,214,215,216,217,218] [(3,[0,1,4,10,11]),(9,[0,10,13]),(15,[0,2,4,14,15]),(21,[0,14,17]),(33,[0,1,2,3,4,18,19,20,21,22])] (sw:=[49,75,76,101,127,128,169]) (gc:=true)
@[simp] theorem h202f:HF h202 [0,1,2,3,4,10,11,12,13,14,15,16,17,18,19,20,21,22,23,24] [28,33,50,58,80,85,103,110,140,151,171,185,199,213] [29,30,51,53,54,59,81,104,106,107,111,172,174,175,181,188,195,201,202,209,214,215,216,217,218] [(3,[0,1,4,10,11]),(9,[0,10,13]),(15,[0,2,4,14,15]),(21,[0,14,17]),(33,[0,1,2,3,4,18,19,20,21,22])] (sw:=[49,75,76,101,127,128,169]) (gc:=true):=by and_intros<;>rfl
def h207:Hint:=hk [0,1,3] [] [6,10,14,16] []
@[simp] theorem h207f:HF h207 [0,1,3] [] [6,10,14,16] []:=by and_intros<;>rfl
def h208:Hint:=hk [0,2] [] [5,6] []
@[simp] theorem h208f:HF h208 [0,2] [] [5,6] []:=by and_intros<;>rfl
def h212:Hint:=hk [0,1,4,5,7,8] [9,16] [17] [(2,[0,1,7,8])] (gc:=true)
@[simp] theorem h212f:HF h212 [0,1,4,5,7,8] [9,16] [17] [(2,[0,1,7,8])] (gc:=true):=by and_intros<;>rfl
def h213:Hint:=hk [0,1,4,5,7,8] [9,16] [17] [(2,[0,1,7,8])] (gc:=true)
@[simp] theorem h213f:HF h213 [0,1,4,5,7,8] [9,16] [17] [(2,[0,1,7,8])] (gc:=true):=by and_intros<;>rfl
def h236:Hint:=hk [0,1,2,6,7,8] [] [9,10,11,14,15,16,20] []
@[simp] theorem h236f:HF h236 [0,1,2,6,7,8] [] [9,10,11,14,15,16,20] []:=by and_intros<;>rfl
def h237:Hint:=hk [0,1] [] [4,5] []
@[simp] theorem h237f:HF h237 [0,1] [] [4,5] []:=by and_intros<;>rfl
def h238:Hint:=hk [0,1,3,4] [] [5] []
@[simp] theorem h238f:HF h238 [0,1,3,4] [] [5] []:=by and_intros<;>rfl
def h239:Hint:=hk [0,1,3,4] [] [5] []
@[simp] theorem h239f:HF h239 [0,1,3,4] [] [5] []:=by and_intros<;>rfl
def h240:Hint:=hk [0,1,2,6,7,8,9] [13,30,35,54] [15,20,24,38,45,56,57,61] [(2,[0,1,2,6,7,8]),(7,[0,1,2,6]),(9,[0,1,2,6,7,8])]
@[simp] theorem h240f:HF h240 [0,1,2,6,7,8,9] [13,30,35,54] [15,20,24,38,45,56,57,61] [(2,[0,1,2,6,7,8]),(7,[0,1,2,6]),(9,[0,1,2,6,7,8])]:=by and_intros<;>rfl
def h241:Hint:=hk [0,1,2,3,4,10,11] [20,23] [13,15,32,47,50,54,55,56] [(2,[0,2,4,10,11])]
@[simp] theorem h241f:HF h241 [0,1,2,3,4,10,11] [20,23] [13,15,32,47,50,54,55,56] [(2,[0,2,4,10,11])]:=by and_intros<;>rfl
def h242:Hint:=hk [0,1,2,3,4,10,11] [20,23] [13,15,32,47,50,54,55,56] [(2,[0,2,4,10,11])]
@[simp] theorem h242f:HF h242 [0,1,2,3,4,10,11] [20,23] [13,15,32,47,50,54,55,56] [(2,[0,2,4,10,11])]:=by and_intros<;>rfl
def h245:Hint:=hk [0,2] [] [5,8,9] []
@[simp] theorem h245f:HF h245 [0,2] [] [5,8,9] []:=by and_intros<;>rfl
def h246:Hint:=hk [0,1,2,3,4,10,11] [20,23] [13,15,32,47,50,54,55,56] [(2,[0,2,4,10,11])]
@[simp] theorem h246f:HF h246 [0,1,2,3,4,10,11] [20,23] [13,15,32,47,50,54,55,56] [(2,[0,2,4,10,11])]:=by and_intros<;>rfl
def h261:Hint:=hk [0,1,3,4,5,7,8] [9,16] [17] [(2,[0,3,7,8])] (roots:=[(3,3)])
@[simp] theorem h261f:HF h261 [0,1,3,4,5,7,8] [9,16] [17] [(2,[0,3,7,8])] (roots:=[(3,3)]):=by and_intros<;>rfl
def h262:Hint:=hk [0,1,3,4,5,7,8] [9,16] [17] [(2,[0,3,7,8])] (roots:=[(3,3)])
@[simp] theorem h262f:HF h262 [0,1,3,4,5,7,8] [9,16] [17] [(2,[0,3,7,8])] (roots:=[(3,3)]):=by and_intros<;>rfl
def h263:Hint:=hk [0,1,2,3,8,9] [14,34] [15,35] [(1,[0,1,2,3,8]),(4,[0,1,2,3,8,9])] (sw:=[32,51,52]) (gc:=true)
@[simp] theorem h263f:HF h263 [0,1,2,3,8,9] [14,34] [15,35] [(1,[0,1,2,3,8]),(4,[0,1,2,3,8,9])] (sw:=[32,51,52]) (gc:=true):=by and_intros<;>rfl
def h264:Hint:=hk [0,1,2,3,4,10,11,12,13,14,15,16,17,18,19,20,21,22,23,24] [28,33,50,58,80,85,103,110,140,151,171,185,199,213] [29,30,51,53,54,59,81,104,106,107,111,172,174,175,181,188,195,201,202,209,214,215,216,217,218] [(3,[0,1,4,10,11]),(9,[0,10,13]),(15,[0,2,4,14,15]),(21,[0,14,17]),(33,[0,1,2,3,4,18,19,20,21,22])] (sw:=[49,75,76,101,127,128,169]) (gc:=true)
@[simp] theorem h264f:HF h264 [0,1,2,3,4,10,11,12,13,14,15,16,17,18,19,20,21,22,23,24] [28,33,50,58,80,85,103,110,140,151,171,185,199,213] [29,30,51,53,54,59,81,104,106,107,111,172,174,175,181,188,195,201,202,209,214,215,216,217,218] [(3,[0,1,4,10,11]),(9,[0,10,13]),(15,[0,2,4,14,15]),(21,[0,14,17]),(33,[0,1,2,3,4,18,19,20,21,22])] (sw:=[49,75,76,101,127,128,169]) (gc:=true):=by and_intros<;>rfl
def h265:Hint:=hk [0,1,2,3,4,10] [13] [14] [(1,[0,1,2,3,10])] (sw:=[36,37])
@[simp] theorem h265f:HF h265 [0,1,2,3,4,10] [13] [14] [(1,[0,1,2,3,10])] (sw:=[36,37]):=by and_intros<;>rfl
def h266:Hint:=hk [0,1,2,3,4,10] [13] [14] [(1,[0,1,2,3,10])] (sw:=[36,37])
@[simp] theorem h266f:HF h266 [0,1,2,3,4,10] [13] [14] [(1,[0,1,2,3,10])] (sw:=[36,37]):=by and_intros<;>rfl
def h269:Hint:=hk [0,1,2,3,4,10] [13] [14] [(1,[0,1,2,3,10])] (sw:=[36,37])
@[simp] theorem h269f:HF h269 [0,1,2,3,4,10] [13] [14] [(1,[0,1,2,3,10])] (sw:=[36,37]):=by and_intros<;>rfl
def h279:Hint:=hk [0,1,2,3,4,10,11] [20,23] [13,15,32,47,50,54,55,56] [(2,[0,2,4,10,11])]
@[simp] theorem h279f:HF h279 [0,1,2,3,4,10,11] [20,23] [13,15,32,47,50,54,55,56] [(2,[0,2,4,10,11])]:=by and_intros<;>rfl
def h289:Hint:=hk [0,1,2,3,4,10] [13] [14] [(1,[0,1,2,3,10])] (sw:=[36,37])
@[simp] theorem h289f:HF h289 [0,1,2,3,4,10] [13] [14] [(1,[0,1,2,3,10])] (sw:=[36,37]):=by and_intros<;>rfl
def h100023:Hint:=hk [0,1,4,5,6,7] [11,24] [12,18,25,27,34] [(4,[0,1,5,6,7])] (glob:=[31]) (msd:=[31])
@[simp] theorem h100023f:HF h100023 [0,1,4,5,6,7] [11,24] [12,18,25,27,34] [(4,[0,1,5,6,7])] (glob:=[31]) (msd:=[31]):=by and_intros<;>rfl
def h100053:Hint:=hk [0,2] [] [6] [] (glob:=[7]) (msd:=[7])
@[simp] theorem h100053f:HF h100053 [0,2] [] [6] [] (glob:=[7]) (msd:=[7]):=by and_intros<;>rfl
def h100055:Hint:=hk [0,2] [] [6] [] (glob:=[7]) (msd:=[7])
@[simp] theorem h100055f:HF h100055 [0,2] [] [6] [] (glob:=[7]) (msd:=[7]):=by and_intros<;>rfl
def h100056:Hint:=hk [0,2] [] [6] [] (glob:=[7]) (msd:=[7])
@[simp] theorem h100056f:HF h100056 [0,2] [] [6] [] (glob:=[7]) (msd:=[7]):=by and_intros<;>rfl
def h100018:Hint:=hk [0,1,2] [] [] [] (roots:=[(3,1),(6,1),(9,1),(12,1),(15,1),(16,1),(17,1),(18,1)]) (sw:=[5,8,11,14]) (alt:=[(5,1),(8,1),(11,1),(14,1)])
@[simp] theorem h100018f:HF h100018 [0,1,2] [] [] [] (roots:=[(3,1),(6,1),(9,1),(12,1),(15,1),(16,1),(17,1),(18,1)]) (sw:=[5,8,11,14]) (alt:=[(5,1),(8,1),(11,1),(14,1)]):=by and_intros<;>rfl
def h100054:Hint:=hk [0,2] [] [3] [] (alt:=[(4,1)])
@[simp] theorem h100054f:HF h100054 [0,2] [] [3] [] (alt:=[(4,1)]):=by and_intros<;>rfl
def h100122:Hint:=hk [0,1,4,5] [] [9,12,14] [] (glob:=[10]) (msd:=[10])
@[simp] theorem h100122f:HF h100122 [0,1,4,5] [] [9,12,14] [] (glob:=[10]) (msd:=[10]):=by and_intros<;>rfl
def H:FuncId→Hint
 | 7=>h7
 | 12=>h12
 | 14=>h14
 | 15=>h15
 | 16=>h16
 | 18=>h18
 | 19=>h19
 | 23=>h23
 | 37=>h37
 | 38=>h38
 | 39=>h39
 | 40=>h40
 | 41=>h41
 | 42=>h42
 | 43=>h43
 | 44=>h44
 | 45=>h45
 | 46=>h46
 | 47=>h47
 | 49=>h49
 | 51=>h51
 | 52=>h52
 | 53=>h53
 | 54=>h54
 | 55=>h55
 | 56=>h56
 | 57=>h57
 | 58=>h58
 | 59=>h59
 | 60=>h60
 | 61=>h61
 | 62=>h62
 | 63=>h63
 | 64=>h64
 | 65=>h65
 | 66=>h66
 | 67=>h67
 | 68=>h68
 | 69=>h69
 | 70=>h70
 | 71=>h71
 | 72=>h72
 | 73=>h73
 | 74=>h74
 | 75=>h75
 | 76=>h76
 | 77=>h77
 | 78=>h78
 | 79=>h79
 | 80=>h80
 | 85=>h85
 | 86=>h86
 | 91=>h91
 | 117=>h117
 | 119=>h119
 | 120=>h120
 | 122=>h122
 | 123=>h123
 | 124=>h124
 | 126=>h126
 | 127=>h127
 | 128=>h128
 | 129=>h129
 | 130=>h130
 | 134=>h134
 | 135=>h135
 | 136=>h136
 | 137=>h137
 | 139=>h139
 | 141=>h141
 | 142=>h142
 | 143=>h143
 | 144=>h144
 | 145=>h145
 | 146=>h146
 | 147=>h147
 | 148=>h148
 | 149=>h149
 | 150=>h150
 | 151=>h151
 | 156=>h156
 | 181=>h181
 | 182=>h182
 | 183=>h183
 | 184=>h184
 | 185=>h185
 | 186=>h186
 | 187=>h187
 | 188=>h188
 | 189=>h189
 | 190=>h190
 | 192=>h192
 | 193=>h193
 | 196=>h196
 | 197=>h197
 | 198=>h198
 | 199=>h199
 | 200=>h200
 | 201=>h201
 | 202=>h202
 | 207=>h207
 | 208=>h208
 | 212=>h212
 | 213=>h213
 | 236=>h236
 | 237=>h237
 | 238=>h238
 | 239=>h239
 | 240=>h240
 | 241=>h241
 | 242=>h242
 | 245=>h245
 | 246=>h246
 | 261=>h261
 | 262=>h262
 | 263=>h263
 | 264=>h264
 | 265=>h265
 | 266=>h266
 | 269=>h269
 | 279=>h279
 | 289=>h289
 | 100023=>h100023
 | 100053=>h100053
 | 100055=>h100055
 | 100056=>h100056
 | 100018=>h100018
 | 100054=>h100054
 | 100122=>h100122
 | _=>{}
@[simp] theorem H7:H 7=h7:=rfl
@[simp] theorem H12:H 12=h12:=rfl
@[simp] theorem H14:H 14=h14:=rfl
@[simp] theorem H15:H 15=h15:=rfl
@[simp] theorem H16:H 16=h16:=rfl
@[simp] theorem H18:H 18=h18:=rfl
@[simp] theorem H19:H 19=h19:=rfl
@[simp] theorem H23:H 23=h23:=rfl
@[simp] theorem H37:H 37=h37:=rfl
@[simp] theorem H38:H 38=h38:=rfl
@[simp] theorem H39:H 39=h39:=rfl
@[simp] theorem H40:H 40=h40:=rfl
@[simp] theorem H41:H 41=h41:=rfl
@[simp] theorem H42:H 42=h42:=rfl
@[simp] theorem H43:H 43=h43:=rfl
@[simp] theorem H44:H 44=h44:=rfl
@[simp] theorem H45:H 45=h45:=rfl
@[simp] theorem H46:H 46=h46:=rfl
@[simp] theorem H47:H 47=h47:=rfl
@[simp] theorem H49:H 49=h49:=rfl
@[simp] theorem H51:H 51=h51:=rfl
@[simp] theorem H52:H 52=h52:=rfl
@[simp] theorem H53:H 53=h53:=rfl
@[simp] theorem H54:H 54=h54:=rfl
@[simp] theorem H55:H 55=h55:=rfl
@[simp] theorem H56:H 56=h56:=rfl
@[simp] theorem H57:H 57=h57:=rfl
@[simp] theorem H58:H 58=h58:=rfl
@[simp] theorem H59:H 59=h59:=rfl
@[simp] theorem H60:H 60=h60:=rfl
@[simp] theorem H61:H 61=h61:=rfl
@[simp] theorem H62:H 62=h62:=rfl
@[simp] theorem H63:H 63=h63:=rfl
@[simp] theorem H64:H 64=h64:=rfl
@[simp] theorem H65:H 65=h65:=rfl
@[simp] theorem H66:H 66=h66:=rfl
@[simp] theorem H67:H 67=h67:=rfl
@[simp] theorem H68:H 68=h68:=rfl
@[simp] theorem H69:H 69=h69:=rfl
@[simp] theorem H70:H 70=h70:=rfl
@[simp] theorem H71:H 71=h71:=rfl
@[simp] theorem H72:H 72=h72:=rfl
@[simp] theorem H73:H 73=h73:=rfl
@[simp] theorem H74:H 74=h74:=rfl
@[simp] theorem H75:H 75=h75:=rfl
@[simp] theorem H76:H 76=h76:=rfl
@[simp] theorem H77:H 77=h77:=rfl
@[simp] theorem H78:H 78=h78:=rfl
@[simp] theorem H79:H 79=h79:=rfl
@[simp] theorem H80:H 80=h80:=rfl
@[simp] theorem H85:H 85=h85:=rfl
@[simp] theorem H86:H 86=h86:=rfl
@[simp] theorem H91:H 91=h91:=rfl
@[simp] theorem H117:H 117=h117:=rfl
@[simp] theorem H119:H 119=h119:=rfl
@[simp] theorem H120:H 120=h120:=rfl
@[simp] theorem H122:H 122=h122:=rfl
@[simp] theorem H123:H 123=h123:=rfl
@[simp] theorem H124:H 124=h124:=rfl
@[simp] theorem H126:H 126=h126:=rfl
@[simp] theorem H127:H 127=h127:=rfl
@[simp] theorem H128:H 128=h128:=rfl
@[simp] theorem H129:H 129=h129:=rfl
@[simp] theorem H130:H 130=h130:=rfl
@[simp] theorem H134:H 134=h134:=rfl
@[simp] theorem H135:H 135=h135:=rfl
@[simp] theorem H136:H 136=h136:=rfl
@[simp] theorem H137:H 137=h137:=rfl
@[simp] theorem H139:H 139=h139:=rfl
@[simp] theorem H141:H 141=h141:=rfl
@[simp] theorem H142:H 142=h142:=rfl
@[simp] theorem H143:H 143=h143:=rfl
@[simp] theorem H144:H 144=h144:=rfl
@[simp] theorem H145:H 145=h145:=rfl
@[simp] theorem H146:H 146=h146:=rfl
@[simp] theorem H147:H 147=h147:=rfl
@[simp] theorem H148:H 148=h148:=rfl
@[simp] theorem H149:H 149=h149:=rfl
@[simp] theorem H150:H 150=h150:=rfl
@[simp] theorem H151:H 151=h151:=rfl
@[simp] theorem H156:H 156=h156:=rfl
@[simp] theorem H181:H 181=h181:=rfl
@[simp] theorem H182:H 182=h182:=rfl
@[simp] theorem H183:H 183=h183:=rfl
@[simp] theorem H184:H 184=h184:=rfl
@[simp] theorem H185:H 185=h185:=rfl
@[simp] theorem H186:H 186=h186:=rfl
@[simp] theorem H187:H 187=h187:=rfl
@[simp] theorem H188:H 188=h188:=rfl
@[simp] theorem H189:H 189=h189:=rfl
@[simp] theorem H190:H 190=h190:=rfl
@[simp] theorem H192:H 192=h192:=rfl
@[simp] theorem H193:H 193=h193:=rfl
@[simp] theorem H196:H 196=h196:=rfl
@[simp] theorem H197:H 197=h197:=rfl
@[simp] theorem H198:H 198=h198:=rfl
@[simp] theorem H199:H 199=h199:=rfl
@[simp] theorem H200:H 200=h200:=rfl
@[simp] theorem H201:H 201=h201:=rfl
@[simp] theorem H202:H 202=h202:=rfl
@[simp] theorem H207:H 207=h207:=rfl
@[simp] theorem H208:H 208=h208:=rfl
@[simp] theorem H212:H 212=h212:=rfl
@[simp] theorem H213:H 213=h213:=rfl
@[simp] theorem H236:H 236=h236:=rfl
@[simp] theorem H237:H 237=h237:=rfl
@[simp] theorem H238:H 238=h238:=rfl
@[simp] theorem H239:H 239=h239:=rfl
@[simp] theorem H240:H 240=h240:=rfl
@[simp] theorem H241:H 241=h241:=rfl
@[simp] theorem H242:H 242=h242:=rfl
@[simp] theorem H245:H 245=h245:=rfl
@[simp] theorem H246:H 246=h246:=rfl
@[simp] theorem H261:H 261=h261:=rfl
@[simp] theorem H262:H 262=h262:=rfl
@[simp] theorem H263:H 263=h263:=rfl
@[simp] theorem H264:H 264=h264:=rfl
@[simp] theorem H265:H 265=h265:=rfl
@[simp] theorem H266:H 266=h266:=rfl
@[simp] theorem H269:H 269=h269:=rfl
@[simp] theorem H279:H 279=h279:=rfl
@[simp] theorem H289:H 289=h289:=rfl
@[simp] theorem H100023:H 100023=h100023:=rfl
@[simp] theorem H100053:H 100053=h100053:=rfl
@[simp] theorem H100055:H 100055=h100055:=rfl
@[simp] theorem H100056:H 100056=h100056:=rfl
@[simp] theorem H100018:H 100018=h100018:=rfl
@[simp] theorem H100054:H 100054=h100054:=rfl
@[simp] theorem H100122:H 100122=h100122:=rfl
end Go.Proofs.Tryz.Ai
end
section
namespace Go.Proofs.Tryz.Ai
open Go Go.AI Go.RowKit Go.Proofs
set_option linter.unusedVariables false
noncomputable def T:Table
 | 115=>some copyCheckT
 | 48=>some stringT
 | 228=>some indexT
 | 125=>some compareT
 | 268=>some countT
 | 133=>some itoaT
 | 173=>some indexST
 | 132=>some atoiT
 | 140=>some lastIndexT
 | 50=>some cutT
 | 195=>some splitT
 | 131=>some cutPrefixT
 | 194=>some hasPrefixT
 | 138=>some containsT
 | 118=>some trimT
 | 121=>some statementsT
 | 16=>some fun _ _=>none
 | _=>none
theorem qep:AI.Enters Tryz.prog 115:=⟨_,Tryz.func115,by kernel_rfl,by kernel_rfl⟩
theorem qhw:AI.Enters Tryz.prog 48:=⟨_,Tryz.func48,by kernel_rfl,by kernel_rfl⟩
theorem qjc:AI.Enters Tryz.prog 228:=⟨_,Tryz.func228,by kernel_rfl,by kernel_rfl⟩
theorem qgd:AI.Enters Tryz.prog 125:=⟨_,Tryz.func125,by kernel_rfl,by kernel_rfl⟩
theorem qjd:AI.Enters Tryz.prog 268:=⟨_,Tryz.func268,by kernel_rfl,by kernel_rfl⟩
theorem qkj:AI.Enters Tryz.prog 133:=⟨_,Tryz.func133,by kernel_rfl,by kernel_rfl⟩
theorem T_ok {W0:World} (hl:LaidAll W0):TableOk Tryz.prog W0.heap.size W0 T:=by
 intro f p hf xs s r s' e
 unfold T at hf
 split at hf
 ·injection hf with hf;subst hf;exact⟨qep,qi9 e⟩
 ·injection hf with hf;subst hf;exact⟨qhw,qo1 e⟩
 ·injection hf with hf;subst hf;exact⟨qjc,qsh e⟩
 ·injection hf with hf;subst hf;exact⟨qgd,qmh e⟩
 ·injection hf with hf;subst hf;exact⟨qjd,qsi e⟩
 ·injection hf with hf;subst hf;exact⟨qkj,qvo hl.tab e⟩
 ·injection hf with hf;subst hf;exact⟨⟨_,Tryz.func173,by kernel_rfl,by kernel_rfl⟩,qo4 hl e⟩
 ·injection hf with hf;subst hf;exact⟨⟨_,Tryz.func132,by kernel_rfl,by kernel_rfl⟩,qvp hl e⟩
 ·injection hf with hf;subst hf;exact⟨⟨_,Tryz.func140,by kernel_rfl,by kernel_rfl⟩,qja e⟩
 ·injection hf with hf;subst hf;exact⟨⟨_,Tryz.func50,by kernel_rfl,by kernel_rfl⟩,qyk hl e⟩
 ·injection hf with hf;subst hf;exact⟨⟨_,Tryz.func195,by kernel_rfl,by kernel_rfl⟩,qsk hl e⟩
 ·injection hf with hf;subst hf;exact⟨⟨_,Tryz.func131,by kernel_rfl,by kernel_rfl⟩,qjb e⟩
 ·injection hf with hf;subst hf;exact⟨⟨_,Tryz.func194,by kernel_rfl,by kernel_rfl⟩,hasPrefix_ok e⟩
 ·injection hf with hf;subst hf;exact⟨⟨_,Tryz.func138,by kernel_rfl,by kernel_rfl⟩,qkh hl e⟩
 ·injection hf with hf;subst hf;exact⟨⟨_,Tryz.func118,by kernel_rfl,by kernel_rfl⟩,trim_ok e⟩
 ·injection hf with hf;subst hf;exact⟨⟨_,Tryz.func121,by kernel_rfl,by kernel_rfl⟩,qhv e⟩
 ·injection hf with hf;subst hf;cases e
 ·cases hf
noncomputable abbrev ev:Oracle:=EV Tryz.prog H T
theorem qhx (xs:List AV) (s:List (List AV)):ev 121 xs s=statementsT xs s:=qao rfl xs s
theorem qek (xs:List AV) (s:List (List AV)):ev 115 xs s=copyCheckT xs s:=qao rfl xs s
theorem qo5 (xs:List AV) (s:List (List AV)):ev 48 xs s=stringT xs s:=qao rfl xs s
theorem qsl (xs:List AV) (s:List (List AV)):ev 228 xs s=indexT xs s:=qao rfl xs s
theorem qmj (xs:List AV) (s:List (List AV)):ev 125 xs s=compareT xs s:=qao rfl xs s
theorem qvq (xs:List AV) (s:List (List AV)):ev 133 xs s=itoaT xs s:=qao rfl xs s
theorem qo6 (xs:List AV) (s:List (List AV)):ev 132 xs s=atoiT xs s:=qao rfl xs s
theorem qje (xs:List AV) (s:List (List AV)):ev 140 xs s=lastIndexT xs s:=qao rfl xs s
theorem qjf (xs:List AV) (s:List (List AV)):ev 50 xs s=cutT xs s:=qao rfl xs s
theorem qsm (xs:List AV) (s:List (List AV)):ev 195 xs s=splitT xs s:=qao rfl xs s
theorem qjg (xs:List AV) (s:List (List AV)):ev 131 xs s=cutPrefixT xs s:=qao rfl xs s
theorem qjh (xs:List AV) (s:List (List AV)):ev 194 xs s=hasPrefixT xs s:=qao rfl xs s
theorem qkk (xs:List AV) (s:List (List AV)):ev 138 xs s=containsT xs s:=qao rfl xs s
theorem qvr (xs:List AV) (s:List (List AV)):ev 118 xs s=trimT xs s:=qao rfl xs s
end Go.Proofs.Tryz.Ai
end
section
namespace Go.Proofs.Tryz.Ai
open Go Go.AI Go.Proofs
set_option maxHeartbeats 1000000
set_option linter.unusedVariables false
def bc (b:Nat):Option (List UInt8)→List AV
 | none=>[.nilp,.sl .nil []]
 | some l=>[.gp b 0 (some (SB,2)),.sl (.ex U8 1) (l.map .u8)]
def bs (b:Nat):Option (List UInt8)→List AV
 | none=>[.nilp,.sl .nil []]
 | some l=>[.gp b 0 (some (SB,2)),.sl .sh (l.map .u8)]
def txt (o:Option (List UInt8)):List UInt8:=o.getD []
@[simp] theorem txt_some (l:List UInt8):txt (some l)=l:=rfl
@[simp] theorem txt_none:txt none=[]:=rfl
@[simp] theorem qhy (b:Nat) (o:Option (List UInt8)) (n:Nat):lowL n (bc b o)↔o=none∨b<n:=by cases o<;>simp[bc]
@[simp] theorem bs_lowL (b:Nat) (o:Option (List UInt8)) (n:Nat):lowL n (bs b o)↔o=none∨b<n:=by cases o<;>simp[bs]
theorem qy (b:Nat) (σ:List (List AV)) (o:Option (List UInt8)) (m:List UInt8) (hl:(txt o).length+m.length≤most) (hb:σ[b]? = some (bc b o)) :
  ev 37 [.gp b 0 (some (SB,2)),.str m] σ=some (.tup [.int .i64 m.length,.nili],σ.set b (bc b (some (txt o++m)))):=by
 have hlt:b<σ.length:=(List.getElem?_eq_some_iff.1 hb).1
 have h1:m.length≤most:=by omega
 refine qd rfl Tryz.func37 rfl (by simp[Tryz.ntmps37]) (by kernel_rfl) (by kernel_rfl) ?_
 cases o with
 | none =>
  simp only[bc,txt_none] at hb hl ⊢
  simp (maxSteps:=4000000) (disch:=omega) [dT,dF,qk,-getElem?_pos,List.getElem?_cons_zero,List.getElem?_cons_succ,List.getElem?_set,qek,copyCheckT,hb,hlt,Tryz.results37,h1,SB,U8]
 | some l =>
  simp only[bc,txt_some] at hb hl ⊢
  simp (maxSteps:=4000000) (disch:=omega) [dT,dF,qk,-getElem?_pos,List.getElem?_cons_zero,List.getElem?_cons_succ,List.getElem?_set,qek,copyCheckT,hb,hlt,Tryz.results37,hl,SB,U8]
theorem qdm (σ τ:List (List AV)) (o:Option (List UInt8)) (m:List UInt8) (hl:(txt o).length+m.length≤most) :
  ev 37 [.gp σ.length 0 (some (SB,2)),.str m] (σ++bc σ.length o::τ)=some (.tup [.int .i64 m.length,.nili],σ++bc σ.length (some (txt o++m))::τ):=by
 have:=qy σ.length (σ++bc σ.length o::τ) o m hl (by simp)
 rw[this];simp
theorem qkl (l:List UInt8):bytesOf (l.map .u8)=some l:=by
 induction l with
 | nil=>rfl
 | cons x r ih=>simp only[List.map_cons,AV.u8] at ih ⊢;unfold bytesOf;simp[ih]
theorem qsn (b:Nat) (σ:List (List AV)) (o:Option (List UInt8)) (hb:σ[b]? = some (bc b o)) :
  ev 48 [.gp b 0 (some (SB,2))] σ=some (.str (txt o),σ.set b (bs b o)):=by
 show ev 48 _ _=_
 rw[qo5]
 cases o with
 | none =>
  simp only[bc,bs,txt_none] at hb ⊢
  have:σ.set b [AV.nilp,.sl .nil []]=σ:=by
   apply List.ext_getElem?;intro i;rw[List.getElem?_set]
   split
   ·rename_i e;subst e;rw[hb];simp[(List.getElem?_eq_some_iff.1 hb).1]
   ·rfl
  rw[this]
  simp[-getElem?_pos,stringT,hb]
 | some l =>
  simp only[bc,bs,txt_some] at hb ⊢
  simp[-getElem?_pos,-AV.u8,stringT,hb,qkl,bnd]
end Go.Proofs.Tryz.Ai
end
section
namespace Go.Proofs.Tryz.Ai
open Go Go.AI Go.Proofs
set_option maxHeartbeats 2000000
set_option linter.unusedVariables false
theorem HasPrefix_eq (a b:List UInt8) (σ):ev 194 [.str a,.str b] σ=some (.bool (b.isPrefixOf a),σ):=by
 rw[qjh];rfl
end Go.Proofs.Tryz.Ai
end
section
namespace Go.AI
@[simp] theorem qvs {n k:Nat}:((n:Int)≤(no_index (OfNat.ofNat k):Int))↔n≤k:=by
 show (n:Int)≤(k:Int)↔n≤k;omega
@[simp] theorem qvt {n k:Nat}:((no_index (OfNat.ofNat k):Int)≤(n:Int))↔k≤n:=by
 show (k:Int)≤(n:Int)↔k≤n;omega
@[simp] theorem qvu {n k:Nat}:((n:Int)<(no_index (OfNat.ofNat k):Int))↔n<k:=by
 show (n:Int)<(k:Int)↔n<k;omega
@[simp] theorem qvv {n k:Nat}:((no_index (OfNat.ofNat k):Int)<(n:Int))↔k<n:=by
 show (k:Int)<(n:Int)↔k<n;omega
@[simp] theorem qvw {n k:Nat}:((n:Int)=(no_index (OfNat.ofNat k):Int))↔n=k:=by
 show (n:Int)=(k:Int)↔n=k;omega
@[simp] theorem qvx {n k:Nat}:((no_index (OfNat.ofNat k):Int)=(n:Int))↔k=n:=by
 show (k:Int)=(n:Int)↔k=n;omega
@[simp] theorem qqr {n k:Nat}:(0≤(n:Int)+(no_index (OfNat.ofNat k):Int))↔True:=by
 show 0≤(n:Int)+(k:Int)↔True;constructor;intro _;trivial;intro _;omega
@[simp] theorem qo7 {n k:Nat}:(0≤(n:Int)+(k:Int))↔True:=by constructor;intro _;trivial;intro _;omega
@[simp] theorem qvy {n k:Nat}:((n:Int)+(no_index (OfNat.ofNat k):Int)<0)↔False:=by
 show (n:Int)+(k:Int)<0↔False;constructor;intro _;omega;intro h;cases h
@[simp] theorem qt3 {n k:Nat}:((n:Int)+(k:Int)<0)↔False:=by constructor;intro _;omega;intro h;cases h
@[simp] theorem toNat_add_lit {n k:Nat}:((n:Int)+(no_index (OfNat.ofNat k):Int)).toNat=n+k:=by
 show ((n:Int)+(k:Int)).toNat=n+k;omega
@[simp] theorem toNat_add_cast {n k:Nat}:((n:Int)+(k:Int)).toNat=n+k:=by omega
@[simp] theorem qyl {n k:Nat}:((n:Int)=(k:Int))↔n=k:=by omega
@[simp] theorem cast_lt' {n k:Nat}:((n:Int)<(k:Int))↔n<k:=by omega
@[simp] theorem cast_le' {n k:Nat}:((n:Int)≤(k:Int))↔n≤k:=by omega
@[simp] theorem u8_inj {n k:UInt8}:n.toNat=k.toNat↔n=k:=UInt8.toNat_inj
@[simp] theorem u8_lit {a:UInt8} {k:Nat} (h:k<256):a.toNat=(no_index (OfNat.ofNat k))↔a=UInt8.ofNat k:=by
 show a.toNat=k↔_
 constructor
 ·intro e;apply UInt8.toNat_inj.1;rw[e];simp;omega
 ·intro e;rw[e];simp;omega
@[simp] theorem u8_beq {a b:UInt8}:(a==b)=decide (a=b):=by
 by_cases h:a=b<;>simp[h]
end Go.AI
end
section
namespace Go.Proofs.Tryz.Ai
open Go Go.AI Go.Proofs
set_option maxHeartbeats 1000000
set_option linter.unusedVariables false
theorem qll (c:UInt8) (σ):ev 143 [.int .u8 c.toNat] σ=some (.bool (isD c),σ):=by
 refine qd rfl Tryz.func143 rfl (by simp[Tryz.ntmps143]) (by kernel_rfl) (by kernel_rfl) ?_
 by_cases h1:48≤c.toNat
 ·simp (maxSteps:=4000000) (disch:=omega) [dT,dF,qk,isD,h1,Tryz.results143]
 ·simp (maxSteps:=4000000) (disch:=omega) [dT,dF,qk,isD,h1,Tryz.results143]
theorem qhz (c:UInt8) (σ):ev 135 [.int .u8 c.toNat] σ=some (.bool (isU c),σ):=by
 refine qd rfl Tryz.func135 rfl (by simp[Tryz.ntmps135]) (by kernel_rfl) (by kernel_rfl) ?_
 by_cases h1:65≤c.toNat
 ·simp (maxSteps:=4000000) (disch:=omega) [dT,dF,qk,isU,h1,Tryz.results135]
 ·simp (maxSteps:=4000000) (disch:=omega) [dT,dF,qk,isU,h1,Tryz.results135]
theorem qso (c:UInt8) (σ):ev 208 [.int .u8 c.toNat] σ=some (.bool (isL c),σ):=by
 refine qd rfl Tryz.func208 rfl (by simp[Tryz.ntmps208]) (by kernel_rfl) (by kernel_rfl) ?_
 by_cases h1:97≤c.toNat
 ·simp (maxSteps:=4000000) (disch:=omega) [dT,dF,qk,isL,h1,Tryz.results208]
 ·simp (maxSteps:=4000000) (disch:=omega) [dT,dF,qk,isL,h1,Tryz.results208]
theorem take_all {α β:Type} {s:List α} {p:α→β} {v:β} {i:Nat} (hc:i<s.length) (hn:∀x∈s.take i,p x=v) (hq:p s[i]=v):∀x∈s.take (i+1),p x=v:=by
 intro x hx
 rw[List.take_succ_eq_append_getElem hc,List.mem_append] at hx
 rcases hx with hx|hx
 ·exact hn x hx
 ·simp at hx;subst hx;exact hq
theorem qvz (s:List UInt8) (hl:s.length≤2^31) (g:Nat) (cap:List AV) (p:UInt8→Bool) (hg:g<100000) (σ:List (List AV)) (hp:∀c:UInt8,ev g (.int .u8 c.toNat::cap) σ=some (.bool (p c),σ)) :
  ev 139 [.str s,.fn g cap] σ=some (.bool (s.any p),σ):=by
 refine qd rfl Tryz.func139 rfl (by simp[Tryz.ntmps139]) (by kernel_rfl) (by kernel_rfl) ?_
 simp (maxSteps:=4000000) (disch:=omega) [dT,dF,qk]
 refine qn (I:=fun i:Nat=>⟨[(0,.str s),(1,.fn g cap),(5,.int .i64 i)],[],σ⟩) (Pr:=fun i=>i≤s.length∧∀x∈s.take i,p x=false) (μ:=fun i=>s.length-i) (a:=0) (by simp) (by simp) ?_
 rintro i ⟨hi,hn⟩
 by_cases hc:i<s.length
 ·by_cases hq:p s[i]=true
  ·have h2:s.any p=true:=List.any_eq_true.2 ⟨_,List.getElem_mem hc,hq⟩
   simp (maxSteps:=4000000) (disch:=omega) [dT,dF,qk,hc ,hg,hp,hq,h2,Tryz.results139]
  ·have hq':p s[i]=false:=by simpa using hq
   simp (maxSteps:=4000000) (disch:=omega) [dT,dF,qk,hc ,hg,hp,hq']
   refine⟨i+1,⟨by omega,?_⟩,by omega,by simp⟩
   exact take_all hc hn hq'
 ·have hi':i=s.length:=by omega
  subst hi'
  rw[List.take_length] at hn
  have h2:s.any p=false:=by rw[Bool.eq_false_iff];intro h;obtain⟨x,hx,hpx⟩:=List.any_eq_true.1 h;rw[hn x hx] at hpx;cases hpx
  simp (maxSteps:=4000000) (disch:=omega) [dT,dF,qk,hc,h2,Tryz.results139]
theorem qt4 (s:List UInt8) (hl:s.length≤2^31) (g:Nat) (cap:List AV) (p:UInt8→Bool) (hg:g<100000) (σ:List (List AV)) (hp:∀c:UInt8,ev g (.int .u8 c.toNat::cap) σ=some (.bool (p c),σ)) :
  ev 142 [.str s,.fn g cap] σ=some (.bool (allB p s),σ):=by
 refine qd rfl Tryz.func142 rfl (by simp[Tryz.ntmps142]) (by kernel_rfl) (by kernel_rfl) ?_
 unfold allB
 simp (maxSteps:=4000000) (disch:=omega) [dT,dF,qk]
 refine qn (I:=fun i:Nat=>⟨[(0,.str s),(1,.fn g cap),(5,.int .i64 i)],[],σ⟩) (Pr:=fun i=>i≤s.length∧∀x∈s.take i,p x=true) (μ:=fun i=>s.length-i) (a:=0) (by simp) (by simp) ?_
 rintro i ⟨hi,hn⟩
 by_cases hc:i<s.length
 ·by_cases hq:p s[i]=true
  ·simp (maxSteps:=4000000) (disch:=omega) [dT,dF,qk,hc ,hg,hp,hq]
   refine⟨i+1,⟨by omega,?_⟩,by omega,by simp⟩
   exact take_all hc hn hq
  ·have hq':p s[i]=false:=by simpa using hq
   have h2:s.all p=false:=by
    rw[Bool.eq_false_iff];intro h;exact hq (List.all_eq_true.1 h _ (List.getElem_mem hc))
   simp (maxSteps:=4000000) (disch:=omega) [dT,dF,qk,hc ,hg,hp,hq',h2,Tryz.results142]
 ·have hi':i=s.length:=by omega
  subst hi'
  rw[List.take_length] at hn
  have h2:s.all p=true:=List.all_eq_true.2 hn
  cases s with
  | nil=>simp (maxSteps:=4000000) (disch:=omega) [dT,dF,qk,Tryz.results142]
  | cons a r=>simp (maxSteps:=4000000) (disch:=omega) [dT,dF,qk,hc,h2,Tryz.results142]
end Go.Proofs.Tryz.Ai
end
section
namespace Go.Proofs.Tryz.Ai
open Go Go.AI Go.Proofs
set_option maxHeartbeats 1000000
set_option linter.unusedVariables false
theorem qh0 (s:List UInt8) (c:UInt8) (σ):ev 228 [.str s,.int .u8 c.toNat] σ=some (.int .i64 (ixI c s),σ):=by
 rw[qsl];simp[indexT,qi3]
theorem qh1 (c:UInt8) (l:List UInt8):Lib.index l [c]=ixI c l:=by
 induction l with
 | nil=>rfl
 | cons b r ih =>
  unfold Lib.index ixI
  unfold ixI at ih
  rw[ih]
  by_cases h:b=c
  ·subst h;simp[List.isPrefixOf,ix]
  ·have h':(c==b)=false:=by simpa using fun e=>h e.symm
   simp only[List.isPrefixOf,h',Bool.false_and,Bool.false_eq_true,if_false,ix,h,if_false]
   cases ix c r with
   | none=>rfl
   | some n =>
    simp only[Option.map_some]
    rw[if_neg (by simp)]
    omega
theorem qh2 (c:UInt8) (l:List UInt8):Lib.cut l [c]=cutB c l:=by
 unfold Lib.cut cutB
 rw[qh1]
 unfold ixI
 cases ix c l with
 | none=>rfl
 | some n=>simp
theorem qmk (c:UInt8):∀(k:Nat) (s:List UInt8),s.count c=k→Lib.splitK [c] 0 k s=splitB c s:=by
 intro k
 induction k with
 | zero=>intro s h;rw[qc7 (List.count_eq_zero.1 h)];rfl
 | succ k ih =>
  intro s h
  cases hi:ix c s with
  | none=>rw[List.count_eq_zero.2 (qj8.1 hi)] at h;omega
  | some n =>
   obtain⟨h1,h2,h3,h4⟩:=qhj hi
   have hidx:Lib.index s [c]=(n:Int):=by rw[qh1];unfold ixI;rw[hi]
   unfold Lib.splitK
   rw[hidx,qoj hi,if_neg (by simp),Int.toNat_natCast]
   congr 1
   refine ih _ ?_
   have:=congrArg (List.count c) h4
   rw[List.count_append,List.count_eq_zero.2 h3,List.count_cons_self,h] at this
   show List.count c (s.drop (n+1))=k
   omega
theorem qo8 (c:UInt8) (s:List UInt8):Lib.split s [c]=splitB c s:=by
 unfold Lib.split
 rw[Lib.count_one]
 exact qmk c _ s rfl
theorem qfs {s:List UInt8} {c:UInt8} {j:Nat}:Lib.occAt s [c] j=true↔s[j]? = some c:=by
 unfold Lib.occAt
 rw[List.isPrefixOf_iff_prefix]
 constructor
 ·rintro⟨t,ht⟩
  have:=congrArg (·[0]?) ht
  simpa using this.symm
 ·intro h
  obtain⟨hj,he⟩:=List.getElem?_eq_some_iff.1 h
  rw[List.drop_eq_getElem_cons hj,he]
  exact⟨_,rfl⟩
theorem qh3 (c:UInt8) (s:List UInt8):Lib.lastIndex s [c]=lixI c s:=by
 unfold lixI
 rcases qf5 s [c] (by simp) with ⟨h1,h2⟩|⟨i,h1,h2,h3⟩
 ·have:lix c s=none:=by
   rw[qhk]
   intro hm
   obtain⟨j,hj⟩:=List.mem_iff_getElem?.1 hm
   have:=h2 j
   rw[qfs.2 hj] at this;cases this
  rw[h1,this]
 ·have hi:=qfs.1 h2
  cases hq:lix c s with
  | none=>exact absurd (List.mem_of_getElem? hi) (qhk.1 hq)
  | some n =>
   obtain⟨g1,g2,g3,g4⟩:=qex hq
   rw[h1]
   simp only
   have:i=n:=by
    rcases Nat.lt_trichotomy i n with h|h|h
    ·have:=h3 n h;rw[qfs.2 g2] at this;cases this
    ·exact h
    ·exact absurd (List.mem_iff_getElem?.2 ⟨i-(n+1),by rw[List.getElem?_drop,show n+1+(i-(n+1))=i by omega];exact hi⟩) g3
   rw[this]
theorem qa4 (s:List UInt8) (c:UInt8) (σ):ev 181 [.str s,.int .u8 c.toNat] σ=some (.int .i64 (ixI c s),σ):=by
 have h1:=qh0 s c
 refine qd rfl Tryz.func181 rfl (by simp[Tryz.ntmps181]) (by kernel_rfl) (by kernel_rfl) ?_
 simp (maxSteps:=4000000) [h1,Tryz.results181]
theorem qba (c:UInt8) (s:List UInt8):(0≤ixI c s)↔c∈s:=by
 unfold ixI
 cases h:ix c s with
 | none=>have:=qj8.1 h;simp[this]
 | some n=>have:=(qhj h).2.1;simp[List.mem_of_getElem? this]
theorem qji (s:List UInt8) (hs:s.length≤2^31) (c:UInt8) (σ):ev 138 [.str s,.str [c]] σ=some (.bool (decide (c∈s)),σ):=by
 rw[qkk]
 simp only[containsT]
 rw[ql (by omega)]
 have:Lib.contains s [c]=decide (c∈s):=by
  unfold Lib.contains
  rw[qh1,Bool.eq_iff_iff]
  simp[qba]
 rw[this]
theorem qo9 (s:List UInt8) (hl:s.length≤2^31) (c:UInt8) (σ):ev 50 [.str s,.str [c]] σ=some (.tup [.str (cutB c s).1,.str (cutB c s).2.1,.bool (cutB c s).2.2],σ):=by
 rw[qjf]
 simp only[cutT]
 rw[ql (by omega),qh2]
theorem qd1 (s:List UInt8) (hl:s.length≤2^31) (c:UInt8) (σ):ev 140 [.str s,.str [c]] σ=some (.int .i64 (lixI c s),σ):=by
 rw[qje]
 simp only[lastIndexT]
 rw[ql (by omega),qh3]
theorem qcz (s:List UInt8) (hl:s.length≤2^30) (c:UInt8) (σ):ev 195 [.str s,.str [c]] σ=some (.sl (.ex 9 1) ((splitB c s).map .str),σ):=by
 rw[qsm]
 simp only[splitT]
 rw[ql ⟨by omega,by simp⟩,qo8]
theorem qv0 (s:List UInt8) (h1:s.all isD=true) (h2:s≠[]) (h3:s.length≤9) (σ):ev 132 [.str s] σ=some (.tup [.int .i64 (valB s),.nili],σ):=by
 rw[qo6]
 simp only[atoiT]
 rw[ql (by omega),qfp s h1 h2 (by omega)]
theorem qel (a b:List UInt8) (ha:a.length≤2^31) (hb:b.length≤2^31) (σ):ev 131 [.str a,.str b] σ=some (.tup [.str (if b.isPrefixOf a then a.drop b.length else a),.bool (b.isPrefixOf a)],σ):=by
 rw[qjg]
 simp only[cutPrefixT]
 first
  | rfl
  | (rw[ql (by omega)];rfl)
end Go.Proofs.Tryz.Ai
end
section
namespace Go.Proofs.Tryz.Ai
open Go Go.AI Go.Proofs
set_option maxHeartbeats 1000000
set_option linter.unusedVariables false
theorem qft (s:List UInt8) (hl:s.length≤2^31) (σ):ev 142 [.str s,.fn 143 []] σ=some (.bool (allB isD s),σ) :=
 qt4 s hl _ _ _ (by decide) σ fun c=>qll c σ
theorem plain_eq (s:List UInt8) (σ):ev 245 [.str s] σ=some (.bool (plainB s),σ):=by
 refine qd rfl Tryz.func245 rfl (by simp[Tryz.ntmps245]) (by kernel_rfl) (by kernel_rfl) ?_
 cases s with
 | nil=>simp (maxSteps:=4000000) [plainB,Tryz.results245]
 | cons c r =>
  cases r with
  | nil =>
   by_cases hc:c=48
   ·subst hc;simp (maxSteps:=4000000) [plainB,Tryz.results245]
   ·simp (maxSteps:=4000000) [plainB,hc,Tryz.results245]
  | cons d r =>
   by_cases hc:c=48
   ·subst hc;simp (maxSteps:=4000000) [plainB,Tryz.results245]
   ·simp (maxSteps:=4000000) [plainB,hc,Tryz.results245]
theorem qb9 (s:List UInt8) (hl:s.length≤2^31) (σ):ev 196 [.str s] σ=some (.tup [.int .i64 ((numB s).getD 0),.bool (numB s).isSome],σ):=by
 have ha:=qft s hl
 have hp:=plain_eq s
 refine qd rfl Tryz.func196 rfl (by simp[Tryz.ntmps196]) (by kernel_rfl) (by kernel_rfl) ?_
 by_cases h1:allB isD s=true
 ·by_cases h2:plainB s=true
  ·by_cases h3:s.length≤9
   ·have h4:numB s=some (valB s):=by simp[numB,numOk,h1,h2,h3]
    have h5:s.all isD=true∧s≠[]:=by simpa[allB] using h1
    have hA:=qv0 s h5.1 h5.2 h3
    have h6:¬9<s.length:=by omega
    simp (maxSteps:=4000000) [ha,hp,h1,h2,h6,hA,h4,Tryz.results196]
   ·have h4:numB s=none:=by simp[numB,numOk,h3]
    have h6:9<s.length:=by omega
    simp (maxSteps:=4000000) [ha,hp,h1,h2,h6,h4,Tryz.results196]
  ·have h4:numB s=none:=by simp[numB,numOk,h2]
   simp (maxSteps:=4000000) [ha,hp,h1,h2,h4,Tryz.results196]
 ·have h4:numB s=none:=by simp[numB,numOk,h1]
  simp (maxSteps:=4000000) [ha,hp,h1,h4,Tryz.results196]
theorem qpa (o:List UInt8) (σ):ev 137 [.str o] σ=some (.fn 207 [.gp σ.length 0 (some (9,1))],σ++[[.str o]]):=by
 refine qd rfl Tryz.func137 rfl (by simp[Tryz.ntmps137]) (by kernel_rfl) (by kernel_rfl) ?_
 simp (maxSteps:=4000000) [Tryz.results137]
theorem qsp (o:List UInt8) (b:Nat) (sh) (c:UInt8) (σ:List (List AV)) (hb:σ[b]? = some [.str o]):ev 207 [.int .u8 c.toNat,.gp b 0 sh] σ=some (.bool (wordB o c),σ):=by
 have h1:=qll c
 have h2:=qhz c
 have h3:=qso c
 have h4:=qa4 o c
 have h5:=qba c o
 refine qd rfl Tryz.func207 rfl (by simp[Tryz.ntmps207]) (by kernel_rfl) (by kernel_rfl) ?_
 by_cases d1:isD c=true
 ·simp (maxSteps:=4000000) [-getElem?_pos,h1,d1,wordB,Tryz.results207]
 ·by_cases d2:isU c=true
  ·simp (maxSteps:=4000000) [-getElem?_pos,h1,h2,d1,d2,wordB,Tryz.results207]
  ·by_cases d3:isL c=true
   ·simp (maxSteps:=4000000) [-getElem?_pos,h1,h2,h3,d1,d2,d3,wordB,Tryz.results207]
   ·simp (maxSteps:=4000000) [-getElem?_pos,h1,h2,h3,h4,h5,hb,d1,d2,d3,wordB,Tryz.results207]
theorem qpb (s o:List UInt8) (hl:s.length≤2^31) (b:Nat) (sh) (σ:List (List AV)) (hb:σ[b]? = some [.str o]):ev 142 [.str s,.fn 207 [.gp b 0 sh]] σ=some (.bool (allB (wordB o) s),σ) :=
 qt4 s hl _ _ _ (by decide) σ fun c=>qsp o b sh c σ hb
end Go.Proofs.Tryz.Ai
end
section
namespace Go.Proofs.Tryz.Ai
open Go Go.AI Go.Proofs
set_option maxHeartbeats 1000000
set_option linter.unusedVariables false
def es:List UInt8→List AV:=fun x=>[.str x]
end Go.Proofs.Tryz.Ai
end
section
namespace Go.Proofs.Tryz.Ai
open Go Go.AI Go.Proofs
set_option maxHeartbeats 400000
set_option linter.unusedVariables false
structure CmpOk (g:Nat) (c:List UInt8→List UInt8→Int) (Q:List UInt8→Prop):Prop where
 tp:TP c
 lt:g<100000
 run:∀x y,Q x→Q y→∀σ,ev g [.str x,.str y] σ=some (.int .i64 (c x y),σ)
end Go.Proofs.Tryz.Ai
end
section
namespace Go.Proofs.Tryz.Ai
open Go Go.AI Go.Proofs
set_option maxHeartbeats 400000
set_option linter.unusedVariables false
end Go.Proofs.Tryz.Ai
end
section
namespace Go.Proofs.Tryz.Ai
open Go Go.AI Go.Proofs
set_option maxHeartbeats 400000
set_option linter.unusedVariables false
theorem half_w {i j:Nat} (h:i+j≤2^31):IntKind.i64.wrap ((i:Int)+j)=((i+j:Nat):Int)∧IntKind.u64.wrap (((i+j:Nat):Int))=((i+j:Nat):Int)∧Int.fdiv ((i+j:Nat):Int) (2^min 1 IntKind.u64.bits)=(((i+j)/2:Nat):Int)∧IntKind.i64.wrap (((i+j)/2:Nat):Int)=(((i+j)/2:Nat):Int):=by
 refine⟨by rw[qk (by omega)];omega,qu7 (by omega),by rw[show ((2:Int)^min 1 IntKind.u64.bits)=2 from by decide,Int.fdiv_eq_ediv_of_nonneg _ (by omega)];omega,qk (by omega)⟩
end Go.Proofs.Tryz.Ai
end
section
namespace Go.Proofs.Tryz.Ai
open Go Go.AI Go.Proofs
set_option maxHeartbeats 2000000
set_option linter.unusedVariables false
theorem qml {o:Option (Ex×St)} {st2:St} {K:Ex→St→Prop} (e:o=some (.normal,st2)) (k:K .normal st2):Post o K:=⟨_,_,e,k⟩
theorem qsq {l r a m e N:Nat} (hm:m=a+l) (he:e=m+r) (heN:e≤N) (hN:N≤2^30) (hl:2≤l) (hr:2≤r):∃mid nn p0 S0 S1:Nat,
  (a≤S0∧S0≤S1∧S1≤mid∧S1≤m∧mid≤S0+r∧(S0=a∨mid=S0+r)∧(S1=mid∨S1=m)∧nn=mid+m∧p0+1=nn∧a<mid∧mid<e) ∧
  IntKind.i64.wrap ((a:Int)+e)=((a+e:Nat):Int)∧IntKind.u64.wrap (((a+e:Nat):Int))=((a+e:Nat):Int)∧Int.fdiv ((a+e:Nat):Int) (2^min 1 IntKind.u64.bits)=(mid:Int)∧IntKind.i64.wrap (mid:Int)=(mid:Int) ∧
  IntKind.i64.wrap ((mid:Int)+m)=(nn:Int)∧IntKind.i64.wrap ((nn:Int)-1)=(p0:Int)∧(mid<m→IntKind.i64.wrap ((nn:Int)-e)=(S0:Int)∧S1=mid)∧(¬mid<m→S0=a∧S1=m):=by
 have hmw:=half_w (i:=a) (j:=e) (by omega)
 obtain⟨h1,h2,h3,h4⟩:=hmw
 refine⟨(a+e)/2,(a+e)/2+m,(a+e)/2+m-1,if (a+e)/2<m then (a+e)/2+m-e else a,if (a+e)/2<m then (a+e)/2 else m,?_,h1,h2,h3,h4,?_,?_,fun q=>?_,fun q=>?_⟩
 ·clear h1 h2 h3 h4
  split<;>omega
 ·rw[qk (by omega)];omega
 ·rw[qk (by omega)];omega
 ·rw[if_pos q,if_pos q];exact⟨by rw[qk (by omega)];omega,rfl⟩
 ·rw[if_neg q,if_neg q];exact⟨rfl,rfl⟩
end Go.Proofs.Tryz.Ai
end
section
namespace Go.Proofs.Tryz.Ai
open Go Go.AI Go.Proofs
set_option maxHeartbeats 2000000
set_option linter.unusedVariables false
end Go.Proofs.Tryz.Ai
end
section
namespace Go.Proofs.Tryz.Ai
open Go Go.AI Go.Proofs
abbrev Rq:=List UInt8×List UInt8×Bool
abbrev Rp:=(List UInt8×List UInt8)×(List UInt8×List UInt8)
abbrev Rt:=List UInt8×List UInt8
end Go.Proofs.Tryz.Ai
end
section
namespace Go.Proofs.Tryz.Ai
open Go Go.AI Go.Proofs
set_option maxHeartbeats 8000000
set_option linter.unusedVariables false
structure SK where
 α:Type
 es:α→List AV
 sz:Nat
 ty:Nat
 fS:Nat
 fI:Nat
 fR:Nat
 fM:Nat
 fT:Nat
 fA:Nat
inductive K|q|t|p|m
abbrev Mo:=List UInt8×List UInt8
def esQ:Rq→List AV:=fun x=>[.str x.1,.str x.2.1,.bool x.2.2]
def esT:Rt→List AV:=fun x=>[.str x.1,.str x.2]
def esP:Rp→List AV:=fun x=>[.str x.1.1,.str x.1.2,.str x.2.1,.str x.2.2]
def esM:Mo→List AV:=fun x=>[.str x.1,.str x.2]
@[reducible] def K.d:K→SK
| .q=>⟨Rq,esQ,3,49,265,189,241,190,124,57⟩
| .t=>⟨Rt,esT,2,53,269,201,246,202,130,64⟩
| .p=>⟨Rp,esP,4,57,266,192,242,193,126,60⟩
| .m=>⟨Mo,esM,2,55,289,263,279,264,240,188⟩
structure KOk (κ:K) (E:κ.d.α→List AV) (ty sz:Nat):Prop where
 hE:∀x,E x=κ.d.es x
 hty:ty=κ.d.ty
 hsz:sz=κ.d.sz
theorem qv1 (κ:K) (x:κ.d.α):(κ.d.es x).length=κ.d.sz:=by cases κ<;>rfl
theorem qym (κ:K) (x:κ.d.α):(κ.d.es x).map dem=κ.d.es x:=by cases κ<;>rfl
theorem qyn (κ:K) (x:κ.d.α) (n:Nat):lowL n (κ.d.es x):=by cases κ<;>simp[K.d,esQ,esT,esP,esM]
theorem K.len {κ:K} {E:κ.d.α→List AV} {ty sz:Nat} (k:KOk κ E ty sz):∀D,(rowE E D).length=D.length*κ.d.sz:=qhr fun x=>by rw[k.hE,qv1]
theorem K.dem {κ:K} {E:κ.d.α→List AV} {ty sz:Nat} (k:KOk κ E ty sz):∀D,(rowE E D).map AI.dem=rowE E D:=by
 intro D
 induction D with
 | nil=>rfl
 | cons a D ih=>unfold rowE at *;rw[List.flatMap_cons,List.map_append,ih,k.hE,qym]
theorem K.bnd {κ:K} {E:κ.d.α→List AV} {ty sz:Nat} (k:KOk κ E ty sz):∀D i,i<D.length→i*κ.d.sz+κ.d.sz≤(rowE E D).length:=by
 intro D i h
 rw[K.len k,← Nat.succ_mul];exact Nat.mul_le_mul_right _ h
theorem K.get {κ:K} {E:κ.d.α→List AV} {ty sz:Nat} (k:KOk κ E ty sz):∀D i x,D[i]? = some x→((rowE E D).drop (i*κ.d.sz)).take κ.d.sz=E x:=by
 intro D i x h
 have:=qlj (E:=E) (sz:=κ.d.sz) (fun x=>by rw[k.hE,qv1]) (fun x=>by rw[k.hE,qym]) h
 rwa [List.map_take,List.map_drop,K.dem k] at this
theorem K.set {κ:K} {E:κ.d.α→List AV} {ty sz:Nat} (k:KOk κ E ty sz):∀D i y,i<D.length→(rowE E D).take (i*κ.d.sz)++(E y++(rowE E D).drop (i*κ.d.sz+κ.d.sz))=rowE E (D.set i y) :=
 fun D i y h=>qsb (E:=E) (sz:=κ.d.sz) (fun x=>by rw[k.hE,qv1]) h
theorem K.low {κ:K} {E:κ.d.α→List AV} {ty sz:Nat} (k:KOk κ E ty sz) (n:Nat):∀D,lowL n (rowE E D):=qoy fun x=>by rw[k.hE];exact qyn κ x n
theorem qh4 {κ:K}:∀{EE:κ.d.α→List AV} {ty sz:Nat} (kk:KOk κ EE ty sz) (b:Nat) (σ:List (List AV)) (D:List κ.d.α) (x y n g:Nat) (hN:D.length≤2^30) (hx:x+n≤D.length) (hy:y+n≤D.length) (hb:b<σ.length),
  ev κ.d.fS [.ms ty sz b 0 D.length,.int .i64 x,.int .i64 y,.int .i64 n,.fn g []] (σ.set b (rowE EE D))=some (.tup [],σ.set b (rowE EE (swapN D x y n))):=by
 cases κ
 all_goals
  dsimp only[K.d]
  intro EE ty sz kk b σ D x y n g hN hx hy hb
  have eg:=K.get kk
  have eb:=K.bnd kk
  have es:=K.set kk
  have ed:=K.dem kk
  have lo:=K.low kk
  obtain⟨hE,hty,hsz⟩:=kk
  dsimp only[K.d] at eg eb es ed lo hE hty hsz
 refine qd rfl Tryz.func265 rfl (by simp[Tryz.ntmps265]) (by kernel_rfl) (by kernel_rfl) ?_
 rotate_left
 refine qd rfl Tryz.func269 rfl (by simp[Tryz.ntmps269]) (by kernel_rfl) (by kernel_rfl) ?_
 rotate_left
 refine qd rfl Tryz.func266 rfl (by simp[Tryz.ntmps266]) (by kernel_rfl) (by kernel_rfl) ?_
 rotate_left
 refine qd rfl Tryz.func289 rfl (by simp[Tryz.ntmps289]) (by kernel_rfl) (by kernel_rfl) ?_
 rotate_left
 all_goals
  simp only[esQ,esT,esP,esM] at hE
  simp only[hE,List.cons_append,List.nil_append] at eg es
  simp (maxSteps:=4000000) [-Prod.forall,hty,hsz,ed]
  refine qn (I:=fun k:Nat=>⟨[(0,.ms ty sz b 0 D.length),(1,.int .i64 x),(2,.int .i64 y),(3,.int .i64 n),(10,.int .i64 k)],[],σ.set b (rowE EE (swapN D x y k))⟩) (Pr:=fun k=>k≤n) (μ:=fun k=>n-k) (a:=0) (by simp[hty,hsz,swapN]) (by simp) ?_
  intro k hk
  by_cases hc:k<n
  ·have hs:swapN D x y (k+1)=qhp (swapN D x y k) (x+k) (y+k):=rfl
   obtain⟨Dk,hDk⟩:∃Dk,swapN D x y k=Dk:=⟨_,rfl⟩
   have hl:Dk.length=D.length:=by rw[← hDk];simp
   rw[hDk] at hs
   obtain⟨i,hi⟩:∃i,x+k=i:=⟨_,rfl⟩
   obtain⟨j,hj⟩:∃i,y+k=i:=⟨_,rfl⟩
   rw[hi,hj] at hs
   obtain⟨u,hu⟩:∃u,Dk[i]? = some u:=⟨_,List.getElem?_eq_getElem (by omega)⟩
   obtain⟨v,hv⟩:∃u,Dk[j]? = some u:=⟨_,List.getElem?_eq_getElem (by omega)⟩
   rw[qcj hu hv] at hs
   have w1:IntKind.i64.wrap ((x:Int)+k)=(i:Int):=by rw[qk (by omega)];omega
   have w2:IntKind.i64.wrap ((y:Int)+k)=(j:Int):=by rw[qk (by omega)];omega
   have w3:IntKind.i64.wrap ((k:Int)+1)=(k:Int)+1:=qk (by omega)
   have q1:i<D.length:=by omega
   have q2:j<D.length:=by omega
   have q1':=eb Dk i (by omega)
   have q2':=eb (Dk.set i v) j (by simp;omega)
   have g1:=eg _ _ _ hu
   have r1:=eb _ _ (List.getElem?_eq_some_iff.1 hu).1
   have g2:=eg _ _ _ hv
   have r2:=eb _ _ (List.getElem?_eq_some_iff.1 hv).1
   have s1:=es (Dk) (i) v (by omega)
   have s2:=es (Dk.set i v) (j) u (by simp;omega)
   simp (maxSteps:=4000000) [-Prod.forall,hty,hsz,ed,-getElem?_pos,hc,hDk,w1,w2,w3,q1,q2,q1',q2',g1,g2,r1,r2,s1,s2,hb]
   exact⟨k+1,by omega,by omega,by simp[hs]⟩
  ·have:k=n:=by omega
   subst this
   simp (maxSteps:=4000000) [-Prod.forall,hty,hsz,ed,hc,Tryz.results265,Tryz.results269,Tryz.results266,Tryz.results289]
end Go.Proofs.Tryz.Ai
end
section
namespace Go.Proofs.Tryz.Ai
open Go Go.AI Go.Proofs
set_option maxHeartbeats 8000000
set_option linter.unusedVariables false
structure CmpOkK (κ:K) (EE:κ.d.α→List AV) (g:Nat) (c:κ.d.α→κ.d.α→Int) (Q:κ.d.α→Prop):Prop where
 tp:TP c
 lt:g<100000
 run:∀x y,Q x→Q y→∀σ,ev g [.agg (EE x),.agg (EE y)] σ=some (.int .i64 (c x y),σ)
theorem qh5 {κ:K}:∀{EE:κ.d.α→List AV} {ty sz:Nat} (kk:KOk κ EE ty sz) {g:Nat} {c:κ.d.α→κ.d.α→Int} {Q:κ.d.α→Prop} (h:CmpOkK κ EE g c Q) (b:Nat) (σ:List (List AV)) (pre L post:List κ.d.α) (hL:∀x∈L,Q x) (N a e:Nat) (hN:N≤2^30) (hNe:N=pre.length+(L.length+post.length)) (ha:a=pre.length) (he:e=a+L.length) (hb:b<σ.length),
  ev κ.d.fI [.ms ty sz b 0 N,.int .i64 a,.int .i64 e,.fn g []] (σ.set b (rowE EE (pre++(L++post))))=some (.tup [],σ.set b (rowE EE (pre++(isrt c L++post)))):=by
 cases κ
 all_goals
  dsimp only[K.d]
  intro EE ty sz kk g c Q h b σ pre L post hL N a e hN hNe ha he hb
  have eg:=K.get kk
  have eb:=K.bnd kk
  have es:=K.set kk
  have ed:=K.dem kk
  have lo:=K.low kk
  obtain⟨hE,hty,hsz⟩:=kk
  dsimp only[K.d] at eg eb es ed lo hE hty hsz
 refine qd rfl Tryz.func189 rfl (by simp[Tryz.ntmps189]) (by kernel_rfl) (by kernel_rfl) ?_
 rotate_left
 refine qd rfl Tryz.func201 rfl (by simp[Tryz.ntmps201]) (by kernel_rfl) (by kernel_rfl) ?_
 rotate_left
 refine qd rfl Tryz.func192 rfl (by simp[Tryz.ntmps192]) (by kernel_rfl) (by kernel_rfl) ?_
 rotate_left
 refine qd rfl Tryz.func263 rfl (by simp[Tryz.ntmps263]) (by kernel_rfl) (by kernel_rfl) ?_
 rotate_left
 all_goals
  simp only[esQ,esT,esP,esM] at hE
  simp only[hE,List.cons_append,List.nil_append] at eg es
  have w0:IntKind.i64.wrap ((a:Int)+1)=(a:Int)+1:=qk (by omega)
  have hgl:=h.lt
  simp (maxSteps:=4000000) [-Prod.forall,hty,hsz,ed,w0]
  refine qn (I:=fun k:Nat=>⟨[(0,.ms ty sz b 0 N),(1,.int .i64 a),(2,.int .i64 e),(3,.fn g []),(8,.int .i64 ((a+k:Nat):Int))],[],σ.set b (rowE EE (pre++(isrt c (L.take k)++(L.drop k++post))))⟩) (Pr:=fun k=>1≤k∧(k≤L.length∨L=[])) (μ:=fun k=>L.length-k) (a:=1)
   (by cases L with
     | nil=>simp[isrt,hty,hsz]
     | cons x L=>simp[isrt,ins1,hty,hsz]) (by cases L<;>simp) ?_
  rintro k ⟨hk1,hk2⟩
  by_cases hc:k<L.length
  ·obtain⟨x,hx⟩:∃x,L[k]? = some x:=⟨_,List.getElem?_eq_getElem hc⟩
   have hQx:=hL x (List.mem_of_getElem? hx)
   have hdrop:L.drop k=x::L.drop (k+1):=by rw[List.drop_eq_getElem_cons hc];congr 1;exact (List.getElem?_eq_some_iff.1 hx).2
   have hS:isrt c (L.take (k+1))=mrg c (isrt c (L.take k)) [x]:=by
    rw[List.take_add_one,hx];exact qot h.tp _ _
   have hSs:=qd0 h.tp (L.take k)
   have hSl:(isrt c (L.take k)).length=k:=by rw[q9];simp;omega
   have hSQ:∀y∈isrt c (L.take k),Q y:=fun y hy=>hL y (List.mem_of_mem_take (qby.1 hy))
   rw[hdrop]
   obtain⟨S,hSe⟩:∃S,isrt c (L.take k)=S:=⟨_,rfl⟩
   rw[hSe] at hS hSs hSl hSQ ⊢
   obtain⟨m,hm⟩:∃m,a+k=m:=⟨_,rfl⟩
   have q0:(m:Int)<e:=by omega
   have q1:m<e:=by omega
   simp (maxSteps:=4000000) [-Prod.forall,hty,hsz,ed,hm,q1]
   refine qn (I:=fun u:Nat=>⟨[(0,.ms ty sz b 0 N),(1,.int .i64 a),(2,.int .i64 e),(3,.fn g []),(8,.int .i64 m),(9,.int .i64 ((a+u:Nat):Int))],[],σ.set b (rowE EE (pre++(S.take u++x::(S.drop u++(L.drop (k+1)++post)))))⟩)
    (Pr:=fun u=>u≤k∧∀v∈S.drop u,c x v<0) (μ:=fun u=>u) (a:=k) (by simp[hty,hsz,hm,← hSl];omega) (by simp[← hSl]) ?_
   rintro u ⟨hu,hV⟩
   have hfin:(∀y,(S.take u).getLast? = some y→¬c x y<0)→isrt c (L.take (k+1))=S.take u++x::S.drop u:=by
    intro hq
    rw[hS]
    have:S=S.take u++S.drop u:=(List.take_append_drop u S).symm
    conv=>lhs;rw[this]
    refine qov (fun y hy=>?_) hV
    obtain⟨z,hz⟩:∃z,(S.take u).getLast? = some z:=by
     cases hg:(S.take u).getLast? with
     | none=>rw[List.getLast?_eq_none_iff] at hg;rw[hg] at hy;cases hy
     | some z=>exact⟨z,rfl⟩
    have h1:=hq z hz
    have hyz:y=z∨c y z≤0:=by
     rw[this] at hSs
     have hs1:=(List.pairwise_append.1 hSs).1
     obtain⟨ys,hys⟩:=List.getLast?_eq_some_iff.1 hz
     rw[hys] at hy hs1
     rcases List.mem_append.1 hy with hy|hy
     ·exact .inr ((List.pairwise_append.1 hs1).2.2 y hy z (by simp))
     ·simp at hy;exact .inl hy
    rcases hyz with rfl|hyz
    ·exact h1
    ·exact h.tp.nlt.2 (h.tp.trans _ _ _ hyz (h.tp.nlt.1 h1))
   obtain⟨R,hR⟩:∃R,L.drop (k+1)++post=R:=⟨_,rfl⟩
   rw[hR]
   cases u with
   | zero =>
    have hf:=hfin (by simp)
    have w2:IntKind.i64.wrap ((m:Int)+1)=(m:Int)+1:=qk (by omega)
    obtain⟨D,hD⟩:∃D,pre++(S.take 0++x::(S.drop 0++R))=D:=⟨_,rfl⟩
    rw[hD]
    simp (maxSteps:=4000000) [-Prod.forall,hty,hsz,ed,-qb]
    refine qg [] _ (k:=?_)
    repeat (first|refine qe _ (hs:=by simp (maxSteps:=4000000) [hty,hsz,ed];exact rfl) (k:=?_)|refine qbl (by rfl) (by rfl) ?_)
    refine qc ?_
    simp (maxSteps:=4000000) [-Prod.forall,hty,hsz,ed,w2]
    refine⟨k+1,⟨by omega,by omega⟩,by omega,by omega,?_⟩
    rw[hf,← hD,← hR];simp
   | succ w =>
    obtain⟨y,hy⟩:∃y,S[w]? = some y:=⟨_,List.getElem?_eq_getElem (by omega)⟩
    have hQy:=hSQ y (List.mem_of_getElem? hy)
    have hcmp:=h.run x y hQx hQy
    simp only[hE] at hcmp
    have hB:=bubL (pre:=pre) (rest:=R) (x:=x) hy
    rw[← ha] at hB
    obtain⟨D,hD⟩:∃D,pre++(S.take (w+1)++x::(S.drop (w+1)++R))=D:=⟨_,rfl⟩
    rw[hD] at hB ⊢
    have hDl:D.length=N:=by rw[← hD,← hR];simp;omega
    obtain⟨i,hi⟩:∃i,a+w=i:=⟨_,rfl⟩
    have hj:a+(w+1)=i+1:=by omega
    rw[hi,hj] at hB
    have w1:IntKind.i64.wrap ((i:Int)+1-1)=(i:Int):=by rw[qk (by omega)];omega
    have w2:IntKind.i64.wrap ((m:Int)+1)=(m:Int)+1:=qk (by omega)
    have p1:(a:Int)<(i:Int)+1:=by omega
    have p2:((i:Int)+1).toNat=i+1:=by omega
    have p3:i+1<N:=by omega
    have p4:i<N:=by omega
    have p5:=eb D i (by omega)
    have p6:=eb D (i+1) (by omega)
    have p7:(0:Int)≤(i:Int)+1:=by omega
    have g1:=eg _ _ _ hB.1
    have r1:=eb _ _ (List.getElem?_eq_some_iff.1 hB.1).1
    have g2:=eg _ _ _ hB.2.1
    have r2:=eb _ _ (List.getElem?_eq_some_iff.1 hB.2.1).1
    have s1:=es (D) (i+1) y (by omega)
    have s2:=es (D.set (i+1) y) (i) x (by simp;omega)
    have p8:=eb (D.set (i+1) y) i (by simp;omega)
    have hsw:=hB.2.2
    rw[qcj hB.2.1 hB.1] at hsw
    have hj2:(a:Int)+((w:Int)+1)=((i+1:Nat):Int):=by omega
    have hi2:(a:Int)+(w:Int)=(i:Int):=by omega
    obtain⟨i1,hi1⟩:∃z,i+1=z:=⟨_,rfl⟩
    have w1:IntKind.i64.wrap ((i1:Int)-1)=(i:Int):=by rw[qk (by omega)];omega
    rw[hi1] at g2 r2 s1 p3 p6 hj2 hsw
    have s2:=es (D.set i1 y) (i) x (by simp;omega)
    have p8:=eb (D.set i1 y) i (by simp;omega)
    have p1:a<i1:=by omega
    simp (maxSteps:=4000000) [-Prod.forall,hty,hsz,ed,-qb,hj2]
    refine qg [] _ (k:=?_)
    repeat (first|refine qe _ (hs:=by simp (maxSteps:=4000000) [hty,hsz,ed,-getElem?_pos,w1,p1,p3,p4,g1,g2,r1,r2,hgl,hcmp,hb];exact rfl) (k:=?_)|refine qbl (by rfl) (by rfl) ?_)
    refine qc ?_
    by_cases hlt:c x y<0
    ·have hV2:∀v∈S.drop w,c x v<0:=by
      have hd:S.drop w=y::S.drop (w+1):=by rw[List.drop_eq_getElem_cons (by omega)];congr 1;exact (List.getElem?_eq_some_iff.1 hy).2
      rw[hd]
      intro v hv
      rcases List.mem_cons.1 hv with rfl|hv
      ·exact hlt
      ·exact hV v hv
     simp (maxSteps:=4000000) [-Prod.forall,hty,hsz,ed,-qb,hlt]
     refine qg [] _ (k:=?_)
     repeat (first|refine qe _ (hs:=by simp (maxSteps:=4000000) [hty,hsz,ed,-getElem?_pos,w1,p3,p4,p5,p6,p8,g1,g2,r1,r2,s1,s2,hb];exact rfl) (k:=?_)|refine qbl (by rfl) (by rfl) ?_)
     refine qc ?_
     simp (maxSteps:=4000000) [-Prod.forall,hty,hsz,ed,w1]
     exact⟨w,⟨by omega,hV2⟩,by omega,hi2.symm,by rw[hsw]⟩
    ·have hf:=hfin (fun z hz=>by
      have:(S.take (w+1)).getLast? = some y:=by rw[List.take_add_one,hy];simp
      rw[this] at hz;injection hz with hz;subst hz;exact hlt)
     simp (maxSteps:=4000000) [-Prod.forall,hty,hsz,ed,hlt,w2]
     refine⟨k+1,⟨by omega,by omega⟩,by omega,by omega,?_⟩
     rw[hf,← hD,← hR];simp
  ·have hk:L.take k=L∧L.drop k=[]:=by
    rcases hk2 with h|h
    ·exact⟨List.take_of_length_le (by omega),List.drop_of_length_le (by omega)⟩
    ·subst h;simp
   rw[hk.1,hk.2]
   obtain⟨m,hm⟩:∃m,a+k=m:=⟨_,rfl⟩
   have q1:¬m<e:=by omega
   have hlow:=qck (σ:=σ) (b:=b) (X:=rowE EE (pre++(L++post))) (lo _ (pre++(isrt c L++([]++post))))
   rw[hm]
   obtain⟨X,hX⟩:∃X,rowE EE (pre++(isrt c L++([]++post)))=X:=⟨_,rfl⟩
   rw[hX] at hlow ⊢
   simp (maxSteps:=4000000) [-Prod.forall,hty,hsz,ed,q1]
   rw[ql hlow,← hX]
   simp
end Go.Proofs.Tryz.Ai
end
section
namespace Go.Proofs.Tryz.Ai
open Go Go.AI Go.Proofs
set_option maxHeartbeats 8000000
set_option linter.unusedVariables false
theorem qmm {κ:K}:∀{EE:κ.d.α→List AV} {ty sz:Nat} (kk:KOk κ EE ty sz) (b:Nat) (σ:List (List AV)) (pre U V post:List κ.d.α) (g N a m e:Nat) (hN:N≤2^30) (hNe:N=pre.length+(U.length+(V.length+post.length))) (ha:a=pre.length) (hm:m=a+U.length) (he:e=m+V.length) (hU:0<U.length) (hV:0<V.length) (hb:b<σ.length),
  ev κ.d.fR [.ms ty sz b 0 N,.int .i64 a,.int .i64 m,.int .i64 e,.fn g []] (σ.set b (rowE EE (pre++(U++(V++post)))))=some (.tup [],σ.set b (rowE EE (pre++(V++(U++post))))):=by
 cases κ
 all_goals
  dsimp only[K.d]
  intro EE ty sz kk b σ pre U V post g N a m e hN hNe ha hm he hU hV hb
  have qs:=@qh4 _ _ _ _ kk
  have eg:=K.get kk
  have eb:=K.bnd kk
  have es:=K.set kk
  have ed:=K.dem kk
  have lo:=K.low kk
  obtain⟨hE,hty,hsz⟩:=kk
  dsimp only[K.d] at qs eg eb es ed lo hE hty hsz
  simp only[hty,hsz] at qs
 refine qd rfl Tryz.func241 rfl (by simp[Tryz.ntmps241]) (by kernel_rfl) (by kernel_rfl) ?_
 rotate_left
 refine qd rfl Tryz.func246 rfl (by simp[Tryz.ntmps246]) (by kernel_rfl) (by kernel_rfl) ?_
 rotate_left
 refine qd rfl Tryz.func242 rfl (by simp[Tryz.ntmps242]) (by kernel_rfl) (by kernel_rfl) ?_
 rotate_left
 refine qd rfl Tryz.func279 rfl (by simp[Tryz.ntmps279]) (by kernel_rfl) (by kernel_rfl) ?_
 rotate_left
 all_goals
  simp only[esQ,esT,esP,esM] at hE
  simp only[hE,List.cons_append,List.nil_append] at eg es
  have w0:IntKind.i64.wrap ((m:Int)-a)=(U.length:Int):=by rw[qk (by omega)];omega
  have w1:IntKind.i64.wrap ((e:Int)-m)=(V.length:Int):=by rw[qk (by omega)];omega
  simp (maxSteps:=4000000) [-Prod.forall,hty,hsz,ed,w0,w1]
  refine qn (I:=fun x:List _×List _×List _×List _=>⟨[(0,.ms ty sz b 0 N),(2,.int .i64 m),(4,.fn g []),(10,.int .i64 x.2.1.length),(11,.int .i64 x.2.2.1.length)],[],σ.set b (rowE EE (x.1++(x.2.1++(x.2.2.1++x.2.2.2))))⟩)
   (Pr:=fun x=>x.1.length+x.2.1.length=m∧0<x.2.1.length∧0<x.2.2.1.length∧x.1++(x.2.2.1++(x.2.1++x.2.2.2))=pre++(V++(U++post))) (μ:=fun x=>x.2.1.length+x.2.2.1.length) (a:=(pre,U,V,post)) (by simp[hty,hsz]) (by simp;omega) ?_
  rintro⟨p,X,Y,q⟩ ⟨h1,h2,h3,h4⟩
  simp only at h1 h2 h3 h4 ⊢
  have hl:=congrArg List.length h4
  simp only[List.length_append] at hl
  obtain⟨i,hi⟩:∃i,X.length=i:=⟨_,rfl⟩
  obtain⟨j,hj⟩:∃j,Y.length=j:=⟨_,rfl⟩
  have hp:p.length=m-i:=by omega
  obtain⟨z,hz⟩:∃z,m-i=z:=⟨_,rfl⟩
  have w2:IntKind.i64.wrap ((m:Int)-i)=(z:Int):=by rw[qk (by omega)];omega
  have hlen:(p++(X++(Y++q))).length=N:=by simp;omega
  by_cases hij:i=j
  ·have hs:=qs b σ (p++(X++([]++(Y++q)))) z m i g (by simp;omega) (by simp;omega) (by simp;omega) hb
   have hsw:=qhq (pre:=p) (U:=X) (mid:=[]) (V:=Y) (post:=q) (n:=i) hi (by omega)
   have e1:p.length+i=m:=by omega
   simp only[List.length_nil,Nat.add_zero] at hsw
   rw[e1,hp,hz] at hsw
   rw[hsw] at hs
   simp only[List.nil_append] at hs
   rw[hlen,h4] at hs
   subst hij
   simp (maxSteps:=4000000) [-Prod.forall,hty,hsz,ed,hi,hj,w2,hs,Tryz.results241,Tryz.results246,Tryz.results242,Tryz.results279]
  ·have hij':¬(i:Int)=j:=by omega
   by_cases hlt:j<i
   ·have hX:X=X.take j++X.drop j:=(List.take_append_drop j X).symm
    have hs:=qs b σ (p++(X.take j++(X.drop j++(Y++q)))) z m j g (by simp;omega) (by simp;omega) (by simp;omega) hb
    have hsw:=qhq (pre:=p) (U:=X.take j) (mid:=X.drop j) (V:=Y) (post:=q) (n:=j) (by simp;omega) hj
    have e1:p.length+(j+(X.drop j).length)=m:=by simp;omega
    rw[e1,hp,hz] at hsw
    rw[hsw] at hs
    have e2:X.take j++(X.drop j++(Y++q))=X++(Y++q):=by rw[← List.append_assoc,← hX]
    rw[e2,hlen] at hs
    have w3:IntKind.i64.wrap ((i:Int)-j)=((i-j:Nat):Int):=by rw[qk (by omega)];omega
    obtain⟨r,hr⟩:∃r,i-j=r:=⟨_,rfl⟩
    rw[hr] at w3
    simp (maxSteps:=4000000) [-Prod.forall,hty,hsz,ed,hi,hj,hij,hlt,w2,w3,hs]
    refine⟨p++Y,X.drop j,X.take j,q,⟨?_,?_,?_,?_⟩,?_,?_,?_⟩
    ·simp;omega
    ·simp;omega
    ·simp;omega
    ·rw[← h4]
     simp only[List.append_assoc]
     rw[← List.append_assoc (X.take j),← hX]
    ·simp;omega
    ·simp;omega
    ·simp
   ·have hlt':i<j:=by omega
    have hY:Y=Y.take (j-i)++Y.drop (j-i):=(List.take_append_drop (j-i) Y).symm
    obtain⟨r,hr⟩:∃r,j-i=r:=⟨_,rfl⟩
    rw[hr] at hY
    have hs:=qs b σ (p++(X++(Y.take r++(Y.drop r++q)))) z (m+r) i g (by simp;omega) (by simp;omega) (by simp;omega) hb
    have hsw:=qhq (pre:=p) (U:=X) (mid:=Y.take r) (V:=Y.drop r) (post:=q) (n:=i) hi (by simp;omega)
    have e1:p.length+(i+(Y.take r).length)=m+r:=by simp;omega
    rw[e1,hp,hz] at hsw
    rw[hsw] at hs
    have e2:Y.take r++(Y.drop r++q)=Y++q:=by rw[← List.append_assoc,← hY]
    rw[e2,hlen] at hs
    have w3:IntKind.i64.wrap ((j:Int)-i)=(r:Int):=by rw[qk (by omega)];omega
    obtain⟨y,hy⟩:∃y,m+r=y:=⟨_,rfl⟩
    have w4:IntKind.i64.wrap ((m:Int)+j)=(m:Int)+j:=qk (by omega)
    have w5:IntKind.i64.wrap ((m:Int)+j-i)=(y:Int):=by rw[qk (by omega)];omega
    rw[hy] at hs
    simp (maxSteps:=4000000) [-Prod.forall,hty,hsz,ed,hi,hj,hij,hlt,w2,w3,w4,w5,hs]
    refine⟨p,Y.drop r,Y.take r,X++q,⟨?_,?_,?_,?_⟩,?_,?_,?_⟩
    ·simp;omega
    ·simp;omega
    ·simp;omega
    ·rw[← h4]
     rw[← List.append_assoc (Y.take r),← hY]
    ·simp;omega
    ·simp;omega
    ·simp
end Go.Proofs.Tryz.Ai
end
section
namespace Go.Proofs.Tryz.Ai
open Go Go.AI Go.Proofs
set_option maxHeartbeats 8000000
set_option linter.unusedVariables false
def MrgOkK (κ:K) (EE:κ.d.α→List AV) (ty sz:Nat) (g:Nat) (c:κ.d.α→κ.d.α→Int) (Q:κ.d.α→Prop) (n:Nat):Prop :=
 ∀(b:Nat) (σ:List (List AV)) (pre L R post:List κ.d.α) (N a m e:Nat),L.length+R.length=n→N≤2^30→N=pre.length+(L.length+(R.length+post.length))→a=pre.length→m=a+L.length→e=m+R.length→0<L.length→0<R.length →
  Srt c L→Srt c R→(∀x∈L,Q x)→(∀x∈R,Q x)→b<σ.length →
  ev κ.d.fM [.ms ty sz b 0 N,.int .i64 a,.int .i64 m,.int .i64 e,.fn g []] (σ.set b (rowE EE (pre++(L++(R++post)))))=some (.tup [],σ.set b (rowE EE (pre++(mrg c L R++post))))
theorem qmn {κ:K}:∀{EE:κ.d.α→List AV} {ty sz:Nat} (kk:KOk κ EE ty sz) {g:Nat} {c:κ.d.α→κ.d.α→Int} {Q:κ.d.α→Prop} (h:CmpOkK κ EE g c Q) (b:Nat) (σ:List (List AV)) (pre:List κ.d.α) (x:κ.d.α) (R post:List κ.d.α) (N a m e:Nat) (hN:N≤2^30) (hNe:N=pre.length+(1+(R.length+post.length))) (ha:a=pre.length) (hm:m=a+1) (he:e=m+R.length) (hR:Srt c R) (hx:Q x) (hQ:∀x∈R,Q x) (hb:b<σ.length),
  ev κ.d.fM [.ms ty sz b 0 N,.int .i64 a,.int .i64 m,.int .i64 e,.fn g []] (σ.set b (rowE EE (pre++([x]++(R++post)))))=some (.tup [],σ.set b (rowE EE (pre++(mrg c [x] R++post)))):=by
 cases κ
 all_goals
  dsimp only[K.d]
  intro EE ty sz kk g c Q h b σ pre x R post N a m e hN hNe ha hm he hR hx hQ hb
  obtain⟨D,hD⟩:∃D,pre++([x]++(R++post))=D:=⟨_,rfl⟩
  have hDl:D.length=N:=by rw[← hD];simp;omega
  have hDx:D[a]? = some x:=by rw[← hD,ha];simp
  have hDR:∀k,k<R.length→D[m+k]? = R[k]?:=by
   intro k hk
   rw[← hD,hm,ha,List.getElem?_append_right (by omega),List.getElem?_append_right (by simp;omega),List.getElem?_append_left (by simp;omega)]
   congr 1;simp;omega
  have w0:IntKind.i64.wrap ((m:Int)-a)=1:=by rw[qk (by omega)];omega
  have hgl:=h.lt
  rw[hD]
  have eg:=K.get kk
  have eb:=K.bnd kk
  have es:=K.set kk
  have ed:=K.dem kk
  have lo:=K.low kk
  obtain⟨hE,hty,hsz⟩:=kk
  dsimp only[K.d] at eg eb es ed lo hE hty hsz
 refine qd rfl Tryz.func190 rfl (by simp[Tryz.ntmps190]) (by kernel_rfl) (by kernel_rfl) ?_
 rotate_left
 refine qd rfl Tryz.func202 rfl (by simp[Tryz.ntmps202]) (by kernel_rfl) (by kernel_rfl) ?_
 rotate_left
 refine qd rfl Tryz.func193 rfl (by simp[Tryz.ntmps193]) (by kernel_rfl) (by kernel_rfl) ?_
 rotate_left
 refine qd rfl Tryz.func264 rfl (by simp[Tryz.ntmps264]) (by kernel_rfl) (by kernel_rfl) ?_
 rotate_left
 all_goals
  simp only[esQ,esT,esP,esM] at hE
  simp only[hE,List.cons_append,List.nil_append] at eg es
  simp (maxSteps:=4000000) [-Prod.forall,hty,hsz,ed,w0]
  refine qn (I:=fun p:Nat×Nat=>⟨[(0,.ms ty sz b 0 N),(1,.int .i64 a),(4,.fn g []),(10,.int .i64 p.1),(11,.int .i64 p.2)],[],σ.set b (rowE EE D)⟩)
   (Pr:=fun p=>m≤p.1∧p.1≤p.2∧p.2≤e∧(∀y∈R.take (p.1-m),c y x<0)∧(∀y∈R.drop (p.2-m),¬c y x<0)) (μ:=fun p=>p.2-p.1) (a:=(m,e)) (by simp[hty,hsz]) (by simp[he]) ?_
  rintro⟨i,j⟩ ⟨h1,h2,h3,h4,h5⟩
  simp only at h1 h2 h3 h4 h5 ⊢
  by_cases hc:i<j
  ·have hw:=half_w (i:=i) (j:=j) (by omega)
   obtain⟨z,hz⟩:∃z,i+j=z:=⟨_,rfl⟩
   obtain⟨k,hk⟩:∃z,(i+j)/2=z:=⟨_,rfl⟩
   rw[hk,hz] at hw
   obtain⟨hw1,hw2,hw3,hw4⟩:=hw
   have hk1:i≤k∧k<j:=by omega
   obtain⟨y,hy⟩:∃y,R[k-m]? = some y:=⟨_,List.getElem?_eq_getElem (by omega)⟩
   have hDy:D[k]? = some y:=by rw[← hy,← hDR _ (by omega)];congr 1;omega
   have g1:=eg _ _ _ hDx
   have r1:=eb _ _ (List.getElem?_eq_some_iff.1 hDx).1
   have g2:=eg _ _ _ hDy
   have r2:=eb _ _ (List.getElem?_eq_some_iff.1 hDy).1
   have hcmp:=h.run y x (hQ y (List.mem_of_getElem? hy)) hx
   simp only[hE] at hcmp
   have p1:k<N:=by omega
   have p2:a<N:=by omega
   have w5:IntKind.i64.wrap ((k:Int)+1)=((k+1:Nat):Int):=by rw[qk (by omega)];omega
   simp (maxSteps:=4000000) [-Prod.forall,hty,hsz,ed,-qb,hc,hw1,hw2,hw3,hw4]
   refine qg [] _ (k:=?_)
   repeat (first|refine qe _ (hs:=by simp (maxSteps:=4000000) [hty,hsz,ed,-getElem?_pos,p1,p2,g1,g2,r1,r2,hgl,hcmp,hb];exact rfl) (k:=?_)|refine qbl (by rfl) (by rfl) ?_)
   refine qc ?_
   have hge:k-m<R.length:=by omega
   by_cases hlt:c y x<0
   ·simp (maxSteps:=4000000) [-Prod.forall,hty,hsz,ed,hlt,w5]
    refine⟨k+1,j,⟨by omega,by omega,by omega,fun w hw=>?_,fun w hw=>?_⟩,by omega,by simp⟩
    ·obtain⟨q,hq,hw⟩:=qbz hw
     exact h.tp.le_lt (qcy h.tp hR (by omega) hw hy) hlt
    ·have:=h5 w hw;omega
   ·simp (maxSteps:=4000000) [-Prod.forall,hty,hsz,ed,hlt]
    refine⟨i,k,⟨by omega,by omega,by omega,fun w hw=>?_,fun w hw=>?_⟩,by omega,by simp,by simp⟩
    ·exact h4 w hw
    ·obtain⟨q,hq,hw⟩:=qb0 hw
     have:=h.tp.nlt.1 hlt
     have:=h.tp.trans _ _ _ this (qcy h.tp hR hq hy hw)
     have:=h.tp.flip x w;omega
  ·have hij:i=j:=by omega
   subst hij
   simp (maxSteps:=4000000) [-Prod.forall,hty,hsz,ed,hc]
   obtain⟨p,hp⟩:∃p,i-m=p:=⟨_,rfl⟩
   rw[hp] at h4 h5
   have hfin:mrg c [x] R=R.take p++x::R.drop p:=by
    conv=>lhs;rw[← List.take_append_drop p R]
    exact qr9 h4 h5
   have hi:i=a+1+p:=by omega
   have hpR:p≤R.length:=by omega
   have w1:IntKind.i64.wrap ((i:Int)-1)=((a+p:Nat):Int):=by rw[qk (by omega)];omega
   refine qn (I:=fun u:Nat=>⟨[(0,.ms ty sz b 0 N),(10,.int .i64 i),(13,.int .i64 ((a+u:Nat):Int))],[],σ.set b (rowE EE (pre++(R.take u++x::(R.drop u++post))))⟩)
    (Pr:=fun u=>u≤p) (μ:=fun u=>p-u) (a:=0) (by simp[hty,hsz,← hD]) (by simp) ?_
   intro u hu
   by_cases huc:u<p
   ·obtain⟨y,hy⟩:∃y,R[u]? = some y:=⟨_,List.getElem?_eq_getElem (by omega)⟩
    have hB:=bubR (pre:=pre) (rest:=post) (x:=x) hy
    rw[← ha] at hB
    obtain⟨D',hD'⟩:∃D',pre++(R.take u++x::(R.drop u++post))=D':=⟨_,rfl⟩
    rw[hD'] at hB ⊢
    have hDl':D'.length=N:=by rw[← hD'];simp;omega
    obtain⟨k,hk⟩:∃z,a+u=z:=⟨_,rfl⟩
    obtain⟨k1,hk1⟩:∃z,k+1=z:=⟨_,rfl⟩
    have e1:a+(u+1)=k1:=by omega
    rw[hk,e1] at hB
    obtain⟨z,hz⟩:∃z,a+p=z:=⟨_,rfl⟩
    rw[hz] at w1
    have q1:k<z:=by omega
    have w2:IntKind.i64.wrap ((k:Int)+1)=(k1:Int):=by rw[qk (by omega)];omega
    have g1:=eg _ _ _ hB.1
    have r1:=eb _ _ (List.getElem?_eq_some_iff.1 hB.1).1
    have g2:=eg _ _ _ hB.2.1
    have r2:=eb _ _ (List.getElem?_eq_some_iff.1 hB.2.1).1
    have s1:=es (D') (k) y (by omega)
    have s2:=es (D'.set k y) (k1) x (by simp;omega)
    have hsw:=hB.2.2
    rw[qcj hB.1 hB.2.1] at hsw
    have p1:k<N:=by omega
    have p2:k1<N:=by omega
    have p5:=eb D' k (by omega)
    have p6:=eb (D'.set k y) k1 (by simp;omega)
    rw[hk]
    simp (maxSteps:=4000000) [-Prod.forall,hty,hsz,ed,-qb,w1,q1]
    refine qg [] _ (k:=?_)
    repeat (first|refine qe _ (hs:=by simp (maxSteps:=4000000) [hty,hsz,ed,-getElem?_pos,w2,p1,p2,p5,p6,g1,g2,r1,r2,s1,s2,hb];exact rfl) (k:=?_)|refine qbl (by rfl) (by rfl) ?_)
    refine qc ?_
    simp (maxSteps:=4000000) [-Prod.forall,hty,hsz,ed,w2]
    exact⟨u+1,by omega,by omega,by omega,by rw[hsw]⟩
   ·obtain rfl:u=p:=by omega
    obtain⟨k,hk⟩:∃z,a+u=z:=⟨_,rfl⟩
    rw[hk] at w1 ⊢
    have hlow:=qck (σ:=σ) (b:=b) (X:=rowE EE D) (lo _ (pre++(mrg c [x] R++post)))
    have e2:pre++(R.take u++x::(R.drop u++post))=pre++(mrg c [x] R++post):=by rw[hfin];simp
    rw[e2]
    obtain⟨X,hX⟩:∃X,rowE EE (pre++(mrg c [x] R++post))=X:=⟨_,rfl⟩
    rw[hX] at hlow ⊢
    simp (maxSteps:=4000000) [-Prod.forall,hty,hsz,ed,w1]
    rw[ql hlow]
theorem qkm {κ:K}:∀{EE:κ.d.α→List AV} {ty sz:Nat} (kk:KOk κ EE ty sz) {g:Nat} {c:κ.d.α→κ.d.α→Int} {Q:κ.d.α→Prop} (h:CmpOkK κ EE g c Q) (b:Nat) (σ:List (List AV)) (pre:List κ.d.α) (x:κ.d.α) (L post:List κ.d.α) (N a m e:Nat) (hN:N≤2^30) (hNe:N=pre.length+(L.length+(1+post.length))) (ha:a=pre.length) (hm:m=a+L.length) (he:e=m+1) (h2:2≤L.length) (hL:Srt c L) (hx:Q x) (hQ:∀x∈L,Q x) (hb:b<σ.length),
  ev κ.d.fM [.ms ty sz b 0 N,.int .i64 a,.int .i64 m,.int .i64 e,.fn g []] (σ.set b (rowE EE (pre++(L++([x]++post)))))=some (.tup [],σ.set b (rowE EE (pre++(mrg c L [x]++post)))):=by
 cases κ
 all_goals
  dsimp only[K.d]
  intro EE ty sz kk g c Q h b σ pre x L post N a m e hN hNe ha hm he h2 hL hx hQ hb
  obtain⟨D,hD⟩:∃D,pre++(L++([x]++post))=D:=⟨_,rfl⟩
  have hDl:D.length=N:=by rw[← hD];simp;omega
  have hDx:D[m]? = some x:=by
   rw[← hD,hm,ha,List.getElem?_append_right (by omega),List.getElem?_append_right (by omega)];simp
  have hDL:∀k,k<L.length→D[a+k]? = L[k]?:=by
   intro k hk
   rw[← hD,ha,List.getElem?_append_right (by omega),List.getElem?_append_left (by omega)]
   congr 1;omega
  have w0:IntKind.i64.wrap ((m:Int)-a)=(L.length:Int):=by rw[qk (by omega)];omega
  have w1:IntKind.i64.wrap ((e:Int)-m)=1:=by rw[qk (by omega)];omega
  have hgl:=h.lt
  have q0:¬(L.length:Int)=1:=by omega
  have q0':¬L.length=1:=by omega
  rw[hD]
  have eg:=K.get kk
  have eb:=K.bnd kk
  have es:=K.set kk
  have ed:=K.dem kk
  have lo:=K.low kk
  obtain⟨hE,hty,hsz⟩:=kk
  dsimp only[K.d] at eg eb es ed lo hE hty hsz
 refine qd rfl Tryz.func190 rfl (by simp[Tryz.ntmps190]) (by kernel_rfl) (by kernel_rfl) ?_
 rotate_left
 refine qd rfl Tryz.func202 rfl (by simp[Tryz.ntmps202]) (by kernel_rfl) (by kernel_rfl) ?_
 rotate_left
 refine qd rfl Tryz.func193 rfl (by simp[Tryz.ntmps193]) (by kernel_rfl) (by kernel_rfl) ?_
 rotate_left
 refine qd rfl Tryz.func264 rfl (by simp[Tryz.ntmps264]) (by kernel_rfl) (by kernel_rfl) ?_
 rotate_left
 all_goals
  simp only[esQ,esT,esP,esM] at hE
  simp only[hE,List.cons_append,List.nil_append] at eg es
  simp (maxSteps:=4000000) [-Prod.forall,hty,hsz,ed,w0,w1,q0,q0']
  refine qn (I:=fun p:Nat×Nat=>⟨[(0,.ms ty sz b 0 N),(2,.int .i64 m),(4,.fn g []),(14,.int .i64 p.1),(15,.int .i64 p.2)],[],σ.set b (rowE EE D)⟩)
   (Pr:=fun p=>a≤p.1∧p.1≤p.2∧p.2≤m∧(∀y∈L.take (p.1-a),¬c x y<0)∧(∀y∈L.drop (p.2-a),c x y<0)) (μ:=fun p=>p.2-p.1) (a:=(a,m)) (by simp[hty,hsz]) (by simp[hm]) ?_
  rintro⟨i,j⟩ ⟨h1,h2,h3,h4,h5⟩
  simp only at h1 h2 h3 h4 h5 ⊢
  by_cases hc:i<j
  ·have hw:=half_w (i:=i) (j:=j) (by omega)
   obtain⟨z,hz⟩:∃z,i+j=z:=⟨_,rfl⟩
   obtain⟨k,hk⟩:∃z,(i+j)/2=z:=⟨_,rfl⟩
   rw[hk,hz] at hw
   obtain⟨hw1,hw2,hw3,hw4⟩:=hw
   have hk1:i≤k∧k<j:=by omega
   obtain⟨y,hy⟩:∃y,L[k-a]? = some y:=⟨_,List.getElem?_eq_getElem (by omega)⟩
   have hDy:D[k]? = some y:=by rw[← hy,← hDL _ (by omega)];congr 1;omega
   have g1:=eg _ _ _ hDx
   have r1:=eb _ _ (List.getElem?_eq_some_iff.1 hDx).1
   have g2:=eg _ _ _ hDy
   have r2:=eb _ _ (List.getElem?_eq_some_iff.1 hDy).1
   have hcmp:=h.run x y hx (hQ y (List.mem_of_getElem? hy))
   simp only[hE] at hcmp
   have p1:k<N:=by omega
   have p2:m<N:=by omega
   have w5:IntKind.i64.wrap ((k:Int)+1)=((k+1:Nat):Int):=by rw[qk (by omega)];omega
   simp (maxSteps:=4000000) [-Prod.forall,hty,hsz,ed,-qb,hc,hw1,hw2,hw3,hw4]
   refine qg [] _ (k:=?_)
   repeat (first|refine qe _ (hs:=by simp (maxSteps:=4000000) [hty,hsz,ed,-getElem?_pos,p1,p2,g1,g2,r1,r2,hgl,hcmp,hb];exact rfl) (k:=?_)|refine qbl (by rfl) (by rfl) ?_)
   refine qc ?_
   by_cases hlt:c x y<0
   ·simp (maxSteps:=4000000) [-Prod.forall,hty,hsz,ed,hlt]
    refine⟨i,k,⟨by omega,by omega,by omega,fun w hw=>?_,fun w hw=>?_⟩,by omega,by simp,by simp⟩
    ·have:=h4 w hw;omega
    ·obtain⟨q,hq,hw⟩:=qb0 hw
     exact h.tp.lt_le hlt (qcy h.tp hL hq hy hw)
   ·simp (maxSteps:=4000000) [-Prod.forall,hty,hsz,ed,hlt,w5]
    refine⟨k+1,j,⟨by omega,by omega,by omega,fun w hw=>?_,fun w hw=>?_⟩,by omega,by simp⟩
    ·obtain⟨q,hq,hw⟩:=qbz hw
     have:=h.tp.trans _ _ _ (qcy h.tp hL (by omega) hw hy) (h.tp.nlt.1 hlt)
     have:=h.tp.flip x w;omega
    ·exact h5 w hw
  ·have hij:i=j:=by omega
   subst hij
   simp (maxSteps:=4000000) [-Prod.forall,hty,hsz,ed,hc]
   obtain⟨p,hp⟩:∃p,i-a=p:=⟨_,rfl⟩
   rw[hp] at h4 h5
   have hfin:mrg c L [x]=L.take p++x::L.drop p:=by
    conv=>lhs;rw[← List.take_append_drop p L]
    exact qov h4 h5
   have hi:i=a+p:=by omega
   have hpR:p≤L.length:=by omega
   refine qn (I:=fun u:Nat=>⟨[(0,.ms ty sz b 0 N),(14,.int .i64 i),(17,.int .i64 ((a+u:Nat):Int))],[],σ.set b (rowE EE (pre++(L.take u++x::(L.drop u++post))))⟩)
    (Pr:=fun u=>p≤u∧u≤L.length) (μ:=fun u=>u-p) (a:=L.length) (by simp[hty,hsz,← hD,hm]) (by simp;omega) ?_
   rintro u ⟨hu,hul⟩
   by_cases huc:p<u
   ·obtain⟨w,rfl⟩:∃w,u=w+1:=⟨u-1,by omega⟩
    obtain⟨y,hy⟩:∃y,L[w]? = some y:=⟨_,List.getElem?_eq_getElem (by omega)⟩
    have hB:=bubL (pre:=pre) (rest:=post) (x:=x) hy
    rw[← ha] at hB
    obtain⟨D',hD'⟩:∃D',pre++(L.take (w+1)++x::(L.drop (w+1)++post))=D':=⟨_,rfl⟩
    rw[hD'] at hB ⊢
    have hDl':D'.length=N:=by rw[← hD'];simp;omega
    obtain⟨k,hk⟩:∃z,a+w=z:=⟨_,rfl⟩
    obtain⟨k1,hk1⟩:∃z,k+1=z:=⟨_,rfl⟩
    have e1:a+(w+1)=k1:=by omega
    rw[hk,e1] at hB
    have q1:i<k1:=by omega
    have w2:IntKind.i64.wrap ((k1:Int)-1)=(k:Int):=by rw[qk (by omega)];omega
    have g1:=eg _ _ _ hB.1
    have r1:=eb _ _ (List.getElem?_eq_some_iff.1 hB.1).1
    have g2:=eg _ _ _ hB.2.1
    have r2:=eb _ _ (List.getElem?_eq_some_iff.1 hB.2.1).1
    have s1:=es (D') (k1) y (by omega)
    have s2:=es (D'.set k1 y) (k) x (by simp;omega)
    have hsw:=hB.2.2
    rw[qcj hB.2.1 hB.1] at hsw
    have p1:k<N:=by omega
    have p2:k1<N:=by omega
    have p5:=eb D' k1 (by omega)
    have p6:=eb (D'.set k1 y) k (by simp;omega)
    rw[e1]
    simp (maxSteps:=4000000) [-Prod.forall,hty,hsz,ed,-qb,q1]
    refine qg [] _ (k:=?_)
    repeat (first|refine qe _ (hs:=by simp (maxSteps:=4000000) [hty,hsz,ed,-getElem?_pos,w2,p1,p2,p5,p6,g1,g2,r1,r2,s1,s2,hb];exact rfl) (k:=?_)|refine qbl (by rfl) (by rfl) ?_)
    refine qc ?_
    simp (maxSteps:=4000000) [-Prod.forall,hty,hsz,ed,w2]
    exact⟨w,⟨by omega,by omega⟩,by omega,by omega,by rw[hsw]⟩
   ·obtain rfl:u=p:=by omega
    have e3:a+u=i:=by omega
    rw[e3]
    have hlow:=qck (σ:=σ) (b:=b) (X:=rowE EE D) (lo _ (pre++(mrg c L [x]++post)))
    have e2:pre++(L.take u++x::(L.drop u++post))=pre++(mrg c L [x]++post):=by rw[hfin];simp
    rw[e2]
    obtain⟨X,hX⟩:∃X,rowE EE (pre++(mrg c L [x]++post))=X:=⟨_,rfl⟩
    rw[hX] at hlow ⊢
    simp (maxSteps:=4000000) [-Prod.forall,hty,hsz,ed]
    rw[ql hlow]
end Go.Proofs.Tryz.Ai
end
section
namespace Go.Proofs.Tryz.Ai
open Go Go.AI Go.Proofs
set_option maxHeartbeats 8000000
set_option linter.unusedVariables false
theorem qpc {κ : K} : ∀ {EE : κ.d.α → List AV} {ty sz : Nat} (kk : KOk κ EE ty sz) {g : Nat} {c : κ.d.α → κ.d.α → Int} {Q : κ.d.α → Prop} (h : CmpOkK κ EE g c Q) (n : Nat), MrgOkK κ EE ty sz g c Q n := by
  cases κ
  all_goals
    dsimp only [K.d]
    intro EE ty sz kk g c Q h n
    induction n using Nat.strongRecOn
    rename_i n ih
    unfold MrgOkK at ih ⊢
    dsimp only [K.d] at ih ⊢
    intro b σ pre L R post N a m e hn hN hNe ha hm he hL0 hR0 hL hR hQL hQR hb
    by_cases l1 : L.length = 1
    · obtain ⟨x, rfl⟩ := List.length_eq_one_iff.1 l1
      exact qmn kk h b σ pre x R post N a m e hN (by simpa using hNe) ha (by simpa using hm) he hR (hQL x (by simp)) hQR hb
    by_cases r1 : R.length = 1
    · obtain ⟨x, rfl⟩ := List.length_eq_one_iff.1 r1
      exact qkm kk h b σ pre x L post N a m e hN (by simpa using hNe) ha hm (by simpa using he) (by omega) hL (hQR x (by simp)) hQL hb
    obtain ⟨D, hD⟩ : ∃ D, pre ++ (L ++ (R ++ post)) = D := ⟨_, rfl⟩
    have hDl : D.length = N := by rw [← hD]; simp; omega
    have hDL : ∀ k, k < L.length → D[a + k]? = L[k]? := by
      intro k hk
      rw [← hD, ha, List.getElem?_append_right (by omega), List.getElem?_append_left (by omega)]
      congr 1; omega
    have hDR : ∀ k, k < R.length → D[m + k]? = R[k]? := by
      intro k hk
      rw [← hD, hm, ha, List.getElem?_append_right (by omega), List.getElem?_append_right (by omega), List.getElem?_append_left (by omega)]
      congr 1; omega
    have w0 : IntKind.i64.wrap ((m : Int) - a) = (L.length : Int) := by rw [qk (by omega)]; omega
    have w1 : IntKind.i64.wrap ((e : Int) - m) = (R.length : Int) := by rw [qk (by omega)]; omega
    have hgl := h.lt
    have q0 : ¬ (L.length : Int) = 1 := by omega
    have q1 : ¬ (R.length : Int) = 1 := by omega
    obtain ⟨mid, nn, p0, S0, S1, k0, hw1, hw2, hw3, hw4, w2, w4, k1, k2⟩ := qsq (l := L.length) (r := R.length) (N := N) hm he (by omega) hN (by omega) (by omega)
    obtain ⟨k01, k02, k03, k04, k05, k06, k07, k08, k09, k10, k11⟩ := k0
    have hlow := qck (σ := σ) (b := b) (X := rowE EE D) (K.low kk _ (pre ++ (mrg c L R ++ post)))
    rw [hD]
    obtain ⟨fin, hfin⟩ : ∃ X, rowE EE (pre ++ (mrg c L R ++ post)) = X := ⟨_, rfl⟩
    rw [hfin] at hlow ⊢
    have qr := @qmm _ _ _ _ kk
    have eg := K.get kk
    have eb := K.bnd kk
    have es := K.set kk
    have ed := K.dem kk
    have lo := K.low kk
    obtain ⟨hE, hty, hsz⟩ := kk
    dsimp only [K.d] at qr eg eb es ed lo hE hty hsz
    simp only [hty, hsz] at qr ih
  refine qd rfl Tryz.func190 rfl (by simp [Tryz.ntmps190]) (by kernel_rfl) (by kernel_rfl) ?_
  rotate_left
  refine qd rfl Tryz.func202 rfl (by simp [Tryz.ntmps202]) (by kernel_rfl) (by kernel_rfl) ?_
  rotate_left
  refine qd rfl Tryz.func193 rfl (by simp [Tryz.ntmps193]) (by kernel_rfl) (by kernel_rfl) ?_
  rotate_left
  refine qd rfl Tryz.func264 rfl (by simp [Tryz.ntmps264]) (by kernel_rfl) (by kernel_rfl) ?_
  rotate_left
  all_goals
    simp only [esQ, esT, esP, esM] at hE
    simp only [hE, List.cons_append, List.nil_append] at eg es
    have hae : ((a + e : Nat) : Int) = (a : Int) + e := by omega
    rw [hae] at hw1 hw2 hw3
    simp (maxSteps := 4000000) [-Prod.forall, hty, hsz, ed, w0, w1, q0, q1, l1, r1, hw1, hw2, hw3, hw4, w2]
    clear hae
    refine qml (st2 := ⟨[(0, .ms ty sz b 0 N), (1, .int .i64 a), (2, .int .i64 m), (3, .int .i64 e), (4, .fn g []), (18, .int .i64 mid), (19, .int .i64 nn), (20, .int .i64 S0), (21, .int .i64 S1)], [], σ.set b (rowE EE D)⟩) ?_ ?_
    · by_cases hmm : mid < m
      · obtain ⟨w3, e1⟩ := k1 hmm
        simp [hty, hsz, hmm, w3, e1]
      · obtain ⟨e0, e1⟩ := k2 hmm
        simp [hty, hsz, hmm, e0, e1]
    clear k1 k2
    simp (maxSteps := 4000000) [-Prod.forall, hty, hsz, ed, w4]
    clear w0 w1 w2 w4 hw1 hw2 hw3 hw4 q0 q1 l1 r1
    refine qn (I := fun p : Nat × Nat => ⟨[(0, .ms ty sz b 0 N), (1, .int .i64 a), (2, .int .i64 m), (3, .int .i64 e), (4, .fn g []), (18, .int .i64 mid), (19, .int .i64 nn), (20, .int .i64 p.1), (21, .int .i64 p.2), (22, .int .i64 p0)], [], σ.set b (rowE EE D)⟩)
      (Pr := fun p => S0 ≤ p.1 ∧ p.1 ≤ p.2 ∧ p.2 ≤ S1 ∧ (p.1 = S0 ∨ qt0 c L R (p.1 - a) (mid - p.1)) ∧ (p.2 = S1 ∨ qt1 c L R (p.2 - a) (mid - p.2))) (μ := fun p => p.2 - p.1) (a := (S0, S1)) (by simp [hty, hsz]) ⟨Nat.le_refl _, k02, Nat.le_refl _, .inl rfl, .inl rfl⟩ ?_
    rintro ⟨i, j⟩ ⟨h1, h2, h3, h4, h5⟩
    simp only at h1 h2 h3 h4 h5 ⊢
    by_cases hc : i < j
    · have hw := half_w (i := i) (j := j) (by omega)
      obtain ⟨z, hz⟩ : ∃ z, i + j = z := ⟨_, rfl⟩
      obtain ⟨k, hk⟩ : ∃ z, (i + j) / 2 = z := ⟨_, rfl⟩
      rw [hk, hz] at hw
      obtain ⟨hv1, hv2, hv3, hv4⟩ := hw
      have hk1 : i ≤ k ∧ k < j := by omega
      obtain ⟨x, hx⟩ : ∃ y, L[k - a]? = some y := ⟨_, List.getElem?_eq_getElem (by omega)⟩
      obtain ⟨y, hy⟩ : ∃ y, R[mid - k - 1]? = some y := ⟨_, List.getElem?_eq_getElem (by omega)⟩
      obtain ⟨k2, hk2⟩ : ∃ z, m + (mid - k - 1) = z := ⟨_, rfl⟩
      have hDx : D[k]? = some x := by rw [← hx, ← hDL _ (by omega)]; congr 1; omega
      have hDy : D[k2]? = some y := by rw [← hy, ← hDR _ (by omega), hk2]
      have g1 := eg _ _ _ hDx
      have r1 := eb _ _ (List.getElem?_eq_some_iff.1 hDx).1
      have g2 := eg _ _ _ hDy
      have r2 := eb _ _ (List.getElem?_eq_some_iff.1 hDy).1
      have hcmp := h.run y x (hQR y (List.mem_of_getElem? hy)) (hQL x (List.mem_of_getElem? hx))
      simp only [hE] at hcmp
      have p1 : k < N := by omega
      have p2 : k2 < N := by omega
      have v5 : IntKind.i64.wrap ((p0 : Int) - k) = (k2 : Int) := by rw [qk (by omega)]; omega
      have v6 : IntKind.i64.wrap ((k : Int) + 1) = ((k + 1 : Nat) : Int) := by rw [qk (by omega)]; omega
      simp (maxSteps := 4000000) [-Prod.forall, hty, hsz, ed, -qb, hc, hv1, hv2, hv3, hv4]
      refine qg [] _ (k := ?_)
      repeat (first | refine qe _ (hs := by simp (maxSteps := 4000000) [hty, hsz, ed, -getElem?_pos, p1, p2, v5, g1, g2, r1, r2, hgl, hcmp, hb]; exact rfl) (k := ?_) | refine qbl (by rfl) (by rfl) ?_)
      refine qc ?_
      by_cases hlt : c y x < 0
      · simp (maxSteps := 4000000) [-Prod.forall, hty, hsz, ed, hlt]
        refine ⟨i, k, ⟨by omega, by omega, by omega, ?_, .inr ⟨x, y, hx, hy, hlt⟩⟩, by omega, by simp, by simp⟩
        exact h4
      · simp (maxSteps := 4000000) [-Prod.forall, hty, hsz, ed, hlt, v6]
        refine ⟨k + 1, j, ⟨by omega, by omega, by omega, .inr ⟨x, y, ?_, ?_, hlt⟩, h5⟩, by omega, by simp⟩
        · rw [← hx]; congr 1; omega
        · rw [← hy]; congr 1
    · obtain rfl : i = j := by omega
      obtain ⟨s, hs⟩ : ∃ s, i - a = s := ⟨_, rfl⟩
      obtain ⟨t, ht⟩ : ∃ t, mid - i = t := ⟨_, rfl⟩
      rw [hs, ht] at h4 h5
      have hcut := qvh h.tp hL hR (s := s) (t := t) (by
        rcases h4 with h4 | h4
        · by_cases q : s = 0
          · exact .inl q
          · exact .inr (.inl (by omega))
        · exact .inr (.inr h4)) (by
        rcases h5 with h5 | h5
        · by_cases q : t = 0
          · exact .inl q
          · exact .inr (.inl (by omega))
        · exact .inr (.inr h5))
      obtain ⟨E, hE⟩ : ∃ E, nn - i = E := ⟨_, rfl⟩
      have v1 : IntKind.i64.wrap ((nn : Int) - i) = (E : Int) := by rw [qk (by omega)]; omega
      have hsL : s ≤ L.length := by omega
      have htR : t ≤ R.length := by omega
      have hi : i = a + s := by omega
      have hmi : mid = a + (s + t) := by omega
      have hEm : E = m + t := by omega
      clear h4 h5
      have hLs := List.take_append_drop s L
      have hRs := List.take_append_drop t R
      have lA : (L.take s).length = s := by simp; omega
      have lB : (L.drop s).length = L.length - s := by simp
      have lC : (R.take t).length = t := by simp; omega
      have lD : (R.drop t).length = R.length - t := by simp
      have sA := qlf hL s
      have sB := qlg hL s
      have sC := qlf hR t
      have sD := qlg hR t
      have QA : ∀ x ∈ L.take s, Q x := fun x hx => hQL x (List.mem_of_mem_take hx)
      have QB : ∀ x ∈ L.drop s, Q x := fun x hx => hQL x (List.mem_of_mem_drop hx)
      have QC : ∀ x ∈ R.take t, Q x := fun x hx => hQR x (List.mem_of_mem_take hx)
      have QD : ∀ x ∈ R.drop t, Q x := fun x hx => hQR x (List.mem_of_mem_drop hx)
      rw [hcut] at hfin
      generalize L.take s = A at *
      generalize L.drop s = B at *
      generalize R.take t = C at *
      generalize R.drop t = F at *
      subst hLs hRs
      simp only [List.length_append] at *
      have hrot : 0 < B.length → 0 < C.length → _ := fun q1 q2 => qr b σ (pre ++ A) B C (F ++ post) g N i m E hN (by simp; omega) (by simp; omega) (by omega) (by omega) q1 q2 hb
      have hm1 : 0 < A.length → 0 < C.length → _ := fun q1 q2 => ih (s + t) (by omega) b σ pre A C (B ++ (F ++ post)) N a i mid (by omega) hN (by simp; omega) ha (by omega) (by omega) q1 q2 sA sC QA QC hb
      have hm2 : 0 < B.length → 0 < F.length → _ := fun q1 q2 => ih (B.length + F.length) (by omega) b σ (pre ++ mrg c A C) B F post N mid E e rfl hN (by simp [(qey A C).length_eq]; omega) (by simp [(qey A C).length_eq]; omega) (by omega) (by omega) q1 q2 sB sD QB QD hb
      simp only [List.append_assoc] at hrot hm1 hm2 hfin hD
      rw [hD] at hrot
      have n1 : ¬ (0 < B.length ∧ 0 < C.length) → rowE EE D = rowE EE (pre ++ (A ++ (C ++ (B ++ (F ++ post))))) := by
        intro q
        rw [← hD]
        rcases Nat.eq_zero_or_pos B.length with q1 | q1
        · rw [List.length_eq_zero_iff.1 q1]; simp
        · rw [List.length_eq_zero_iff.1 (show C.length = 0 by omega)]; simp
      have n2 : ¬ (0 < A.length ∧ 0 < C.length) → rowE EE (pre ++ (A ++ (C ++ (B ++ (F ++ post))))) = rowE EE (pre ++ (mrg c A C ++ (B ++ (F ++ post)))) := by
        intro q
        rcases Nat.eq_zero_or_pos A.length with q1 | q1
        · rw [List.length_eq_zero_iff.1 q1]; simp
        · rw [List.length_eq_zero_iff.1 (show C.length = 0 by omega)]; simp
      have n3 : ¬ (0 < B.length ∧ 0 < F.length) → rowE EE (pre ++ (mrg c A C ++ (B ++ (F ++ post)))) = fin := by
        intro q
        rw [← hfin]
        rcases Nat.eq_zero_or_pos B.length with q1 | q1
        · rw [List.length_eq_zero_iff.1 q1]; simp
        · rw [List.length_eq_zero_iff.1 (show F.length = 0 by omega)]; simp
      rw [hfin] at hm2
      generalize rowE EE D = X0 at *
      generalize rowE EE (pre ++ (A ++ (C ++ (B ++ (F ++ post))))) = X1 at *
      generalize rowE EE (pre ++ (mrg c A C ++ (B ++ (F ++ post)))) = X2 at *
      clear hfin hcut hDL hDR ih k05 k06 k07 hD hDl
      have hrot' : i < m → m < E → _ := fun q1 q2 => hrot (by omega) (by omega)
      have hm1' : a < i → i < mid → _ := fun q1 q2 => hm1 (by omega) (by omega)
      have hm2' : mid < E → E < e → _ := fun q1 q2 => hm2 (by omega) (by omega)
      clear hrot hm1 hm2
      by_cases c1 : i < m <;> by_cases c2 : m < E <;> by_cases c4 : i < mid <;> by_cases c5 : mid < E <;> (first | (exfalso; omega) | skip)
      all_goals by_cases c3 : a < i <;> by_cases c6 : E < e <;> (first | (exfalso; omega) | skip)
      all_goals
        (try have e1 := n1 (by omega)
         try have e2 := n2 (by omega)
         try have e3 := n3 (by omega)
         clear n1 n2 n3
         try subst e1
         try subst e2
         try subst e3
         clear lA lB lC lD sA sB sC sD QA QB QC QD hL hR hQL hQR hL0 hR0 hsL htR hn hNe hi hmi hEm hm he)
      all_goals
        (simp (maxSteps := 4000000) [-Prod.forall, hty, hsz, ed, v1, c1, c2, c3, c4, c5, c6, hrot', hm1', hm2']
         try rw [ql hlow])
end Go.Proofs.Tryz.Ai
end
section
namespace Go.Proofs.Tryz.Ai
open Go Go.AI Go.Proofs
set_option maxHeartbeats 8000000
set_option linter.unusedVariables false
theorem qmo {κ:K}:∀{EE:κ.d.α→List AV} {ty sz:Nat} (kk:KOk κ EE ty sz) {g:Nat} {c:κ.d.α→κ.d.α→Int} {Q:κ.d.α→Prop} (h:CmpOkK κ EE g c Q) (b:Nat) (σ:List (List AV)) (L:List κ.d.α) (n:Nat) (hL:∀x∈L,Q x) (hn:L.length=n) (hN:n≤2^30) (hb:b<σ.length),
  ev κ.d.fT [.ms ty sz b 0 n,.int .i64 n,.fn g []] (σ.set b (rowE EE L))=some (.tup [],σ.set b (rowE EE (isrt c L))):=by
 cases κ
 all_goals
  dsimp only[K.d]
  intro EE ty sz kk g c Q h b σ L n hL hn hN hb
  have qi:=@qh5 _ _ _ _ kk g c Q h
  have qm:=@qpc _ _ _ _ kk g c Q h
  unfold MrgOkK at qm
  have eg:=K.get kk
  have eb:=K.bnd kk
  have es:=K.set kk
  have ed:=K.dem kk
  have lo:=K.low kk
  obtain⟨hE,hty,hsz⟩:=kk
  dsimp only[K.d] at qi qm eg eb es ed lo hE hty hsz
  simp only[hty,hsz] at qi qm
 refine qd rfl Tryz.func124 rfl (by simp[Tryz.ntmps124]) (by kernel_rfl) (by kernel_rfl) ?_
 rotate_left
 refine qd rfl Tryz.func130 rfl (by simp[Tryz.ntmps130]) (by kernel_rfl) (by kernel_rfl) ?_
 rotate_left
 refine qd rfl Tryz.func126 rfl (by simp[Tryz.ntmps126]) (by kernel_rfl) (by kernel_rfl) ?_
 rotate_left
 refine qd rfl Tryz.func240 rfl (by simp[Tryz.ntmps240]) (by kernel_rfl) (by kernel_rfl) ?_
 rotate_left
 all_goals
  simp only[esQ,esT,esP,esM] at hE
  simp only[hE,List.cons_append,List.nil_append] at eg es
  simp (maxSteps:=4000000) [-Prod.forall,hty,hsz,ed]
  refine qn (I:=fun q:Nat=>⟨[(0,.ms ty sz b 0 n),(1,.int .i64 n),(2,.fn g []),(6,.int .i64 20),(7,.int .i64 ((20*q:Nat):Int)),(8,.int .i64 ((20*q+20:Nat):Int))],[],σ.set b (rowE EE (blk c 20 (L.take (20*q))++L.drop (20*q)))⟩)
   (Pr:=fun q=>20*q≤n) (μ:=fun q=>n-20*q) (a:=0) (by simp[hty,hsz,qa1,isrt]) (by simp) ?_
  intro q hq
  obtain⟨a,ha⟩:∃a,20*q=a:=⟨_,rfl⟩
  rw[ha] at hq ⊢
  have hpl:(blk c 20 (L.take a)).length=a:=by rw[blk_len];simp;omega
  by_cases hc:a+20≤n
  ·have hX:L.drop a=(L.drop a).take 20++L.drop (a+20):=by rw[← List.drop_drop,List.take_append_drop]
   have hins:=qi b σ (blk c 20 (L.take a)) ((L.drop a).take 20) (L.drop (a+20)) (fun x hx=>hL x (List.mem_of_mem_drop (List.mem_of_mem_take hx))) n a (a+20) hN (by rw[hpl];simp;omega) hpl.symm (by simp;omega) hb
   rw[← hX,← List.append_assoc,← qlh (by omega) q ha.symm (by omega)] at hins
   have w1:IntKind.i64.wrap (((a+20:Nat):Int)+20)=((a+20+20:Nat):Int):=by rw[qk (by omega)];omega
   obtain⟨a2,ha2⟩:∃z,a+20=z:=⟨_,rfl⟩
   rw[ha2] at hins w1 hc ⊢
   simp (maxSteps:=4000000) [-Prod.forall,hty,hsz,ed,hc,hins,w1]
   refine⟨q+1,by omega,by omega,by omega,?_⟩
   rw[show 20*(q+1)=a2 by omega]
  ·obtain⟨a2,ha2⟩:∃z,a+20=z:=⟨_,rfl⟩
   have hins:=qi b σ (blk c 20 (L.take a)) (L.drop a) [] (fun x hx=>hL x (List.mem_of_mem_drop hx)) n a n hN (by rw[hpl];simp;omega) hpl.symm (by simp;omega) hb
   rw[List.append_nil,List.append_nil,← qli (by omega) q ha.symm (by omega) (by omega)] at hins
   rw[ha2] at hc ⊢
   simp (maxSteps:=4000000) [-Prod.forall,hty,hsz,ed,hc,hins]
   refine qn (I:=fun k:Nat=>⟨[(0,.ms ty sz b 0 n),(1,.int .i64 n),(2,.fn g []),(6,.int .i64 k)],[],σ.set b (rowE EE (blk c k L))⟩)
    (Pr:=fun k=>0<k∧k≤2^31) (μ:=fun k=>n-k) (a:=20) (by simp[hty,hsz]) (by simp) ?_
   clear hins hpl hc ha ha2 hq
   rintro k ⟨hk0,hk⟩
   by_cases hkn:k<n
   ·have w1:IntKind.i64.wrap (2*(k:Int))=((2*k:Nat):Int):=by rw[qk (by omega)];omega
    obtain⟨k2,hk2⟩:∃z,2*k=z:=⟨_,rfl⟩
    rw[hk2] at w1
    simp (maxSteps:=4000000) [-Prod.forall,hty,hsz,ed,hkn,w1]
    refine qn (I:=fun q:Nat=>⟨[(0,.ms ty sz b 0 n),(1,.int .i64 n),(2,.fn g []),(6,.int .i64 k),(7,.int .i64 ((k2*q:Nat):Int)),(8,.int .i64 ((k2*q+k2:Nat):Int))],[],σ.set b (rowE EE (blk c k2 (L.take (k2*q))++blk c k (L.drop (k2*q))))⟩)
     (Pr:=fun q=>k2*q≤n) (μ:=fun q=>n-k2*q) (a:=0) (by simp[hty,hsz,qa1,isrt]) (by simp) ?_
    intro q hq
    obtain⟨a,ha⟩:∃a,k2*q=a:=⟨_,rfl⟩
    have hq1:k2*(q+1)=a+k2:=by rw[Nat.mul_succ,ha]
    rw[ha] at hq ⊢
    have hpl:(blk c k2 (L.take a)).length=a:=by rw[blk_len];simp;omega
    have hw3:IntKind.i64.wrap ((a:Int)+k)=((a+k:Nat):Int):=by rw[qk (by omega)];omega
    have hS1:=qd0 h.tp ((L.drop a).take k)
    have hQ1:∀x∈isrt c ((L.drop a).take k),Q x:=fun x hx=>hL x (List.mem_of_mem_drop (List.mem_of_mem_take (qby.1 hx)))
    by_cases hc:a+k2≤n
    ·have e1:blk c k (L.drop a)=isrt c ((L.drop a).take k)++(isrt c ((L.drop (a+k)).take k)++blk c k (L.drop (a+k2))):=by
      rw[blk_step hk0,List.drop_drop,blk_step hk0 (L.drop (a+k)),List.drop_drop]
      congr 4;omega
     have hQ2:∀x∈isrt c ((L.drop (a+k)).take k),Q x:=fun x hx=>hL x (List.mem_of_mem_drop (List.mem_of_mem_take (qby.1 hx)))
     have hm:=qm _ b σ (blk c k2 (L.take a)) (isrt c ((L.drop a).take k)) (isrt c ((L.drop (a+k)).take k)) (blk c k (L.drop (a+k2))) n a (a+k) (a+k2) rfl hN (by rw[hpl,q9,q9,blk_len];simp;omega) hpl.symm (by rw[q9];simp;omega) (by rw[q9];simp;omega) (by rw[q9];simp;omega) (by rw[q9];simp;omega) hS1 (qd0 h.tp _) hQ1 hQ2 hb
     rw[← e1,← qez h.tp,← List.drop_drop,← List.take_add,← List.append_assoc,show k+k=k2 by omega,← qlh (by omega) q ha.symm (by omega)] at hm
     obtain⟨m,hmm⟩:∃z,a+k=z:=⟨_,rfl⟩
     obtain⟨a2,ha2⟩:∃z,a+k2=z:=⟨_,rfl⟩
     have w4:IntKind.i64.wrap ((a2:Int)+k2)=((a2+k2:Nat):Int):=by rw[qk (by omega)];omega
     rw[hmm,ha2] at hm
     rw[hmm] at hw3
     rw[ha2] at hc hq1 ⊢
     simp (maxSteps:=4000000) [-Prod.forall,hty,hsz,ed,hc,hm,hw3,w1,w4]
     refine⟨q+1,by omega,by omega,by rw[← hq1];simp,?_⟩
     rw[hq1]
    ·obtain⟨a2,ha2⟩:∃z,a+k2=z:=⟨_,rfl⟩
     rw[ha2] at hc ⊢
     have w5:IntKind.i64.wrap ((k:Int)*2)=(k2:Int):=by rw[qk (by omega)];omega
     have hfin:blk c k2 L=blk c k2 (L.take a)++isrt c (L.drop a):=qli (by omega) q ha.symm (by omega) (by omega)
     obtain⟨m,hmm⟩:∃z,a+k=z:=⟨_,rfl⟩
     rw[hmm] at hw3
     by_cases hmn:m<n
     ·have e1:blk c k (L.drop a)=isrt c ((L.drop a).take k)++isrt c (L.drop m):=by
       rw[blk_step hk0,List.drop_drop,hmm,qa1 (L:=L.drop m) (by simp;omega)]
      have hQ2:∀x∈isrt c (L.drop m),Q x:=fun x hx=>hL x (List.mem_of_mem_drop (qby.1 hx))
      have hm:=qm _ b σ (blk c k2 (L.take a)) (isrt c ((L.drop a).take k)) (isrt c (L.drop m)) [] n a m n rfl hN (by rw[hpl,q9,q9];simp;omega) hpl.symm (by rw[q9];simp;omega) (by rw[q9];simp;omega) (by rw[q9];simp;omega) (by rw[q9];simp;omega) hS1 (qd0 h.tp _) hQ1 hQ2 hb
      rw[List.append_nil,List.append_nil,← e1,← qez h.tp,← hmm,← List.drop_drop,List.take_append_drop,hmm,← hfin] at hm
      simp (maxSteps:=4000000) [-Prod.forall,hty,hsz,ed,hc,hm,hw3,hmn,w5]
      exact⟨k2,by omega,by omega,rfl,rfl⟩
     ·have e1:blk c k2 (L.take a)++blk c k (L.drop a)=blk c k2 L:=by rw[hfin,qa1 (L:=L.drop a) (by simp;omega)]
      rw[e1]
      simp (maxSteps:=4000000) [-Prod.forall,hty,hsz,ed,hc,hw3,hmn,w5]
      exact⟨k2,by omega,by omega,rfl,rfl⟩
   ·rw[qa1 (by omega)]
    simp (maxSteps:=4000000) [-Prod.forall,hty,hsz,ed,hkn,Tryz.results124,Tryz.results130,Tryz.results126,Tryz.results240]
theorem qbb {κ:K}:∀{EE:κ.d.α→List AV} {ty sz:Nat} (kk:KOk κ EE ty sz) {g:Nat} {c:κ.d.α→κ.d.α→Int} {Q:κ.d.α→Prop} (h:CmpOkK κ EE g c Q) (b:Nat) (σ:List (List AV)) (L:List κ.d.α) (n:Nat) (hL:∀x∈L,Q x) (hn:L.length=n) (hN:n≤2^30) (hb:b<σ.length),
  ev κ.d.fA [.ms ty sz b 0 n,.fn g []] (σ.set b (rowE EE L))=some (.tup [],σ.set b (rowE EE (isrt c L))):=by
 cases κ
 all_goals
  dsimp only[K.d]
  intro EE ty sz kk g c Q h b σ L n hL hn hN hb
  have h1:=qmo kk h b σ L n hL hn hN hb
  have eg:=K.get kk
  have eb:=K.bnd kk
  have es:=K.set kk
  have ed:=K.dem kk
  have lo:=K.low kk
  obtain⟨hE,hty,hsz⟩:=kk
  dsimp only[K.d] at eg eb es ed lo hE hty hsz
  dsimp only[K.d] at h1
  simp only[hty,hsz] at h1
 refine qd rfl Tryz.func57 rfl (by simp[Tryz.ntmps57]) (by kernel_rfl) (by kernel_rfl) ?_
 rotate_left
 refine qd rfl Tryz.func64 rfl (by simp[Tryz.ntmps64]) (by kernel_rfl) (by kernel_rfl) ?_
 rotate_left
 refine qd rfl Tryz.func60 rfl (by simp[Tryz.ntmps60]) (by kernel_rfl) (by kernel_rfl) ?_
 rotate_left
 refine qd rfl Tryz.func188 rfl (by simp[Tryz.ntmps188]) (by kernel_rfl) (by kernel_rfl) ?_
 rotate_left
 all_goals
  simp only[esQ,esT,esP,esM] at hE
  simp only[hE,List.cons_append,List.nil_append] at eg es
  simp (maxSteps:=4000000) [-Prod.forall,hty,hsz,ed,h1,Tryz.results57,Tryz.results64,Tryz.results60,Tryz.results188]
end Go.Proofs.Tryz.Ai
end
section
namespace Go.Proofs.Tryz.Ai
open Go Go.AI Go.Proofs
set_option maxHeartbeats 8000000
set_option linter.unusedVariables false
theorem qge (κ:K) (g:Nat) (σ:List (List AV)):ev κ.d.fI [.sl .sh [],.int .i64 0,.int .i64 0,.fn g []] σ=some (.tup [],σ):=by
 cases κ
 all_goals dsimp only[K.d]
 refine qd rfl Tryz.func189 rfl (by simp[Tryz.ntmps189]) (by kernel_rfl) (by kernel_rfl) ?_
 rotate_left
 refine qd rfl Tryz.func201 rfl (by simp[Tryz.ntmps201]) (by kernel_rfl) (by kernel_rfl) ?_
 rotate_left
 refine qd rfl Tryz.func192 rfl (by simp[Tryz.ntmps192]) (by kernel_rfl) (by kernel_rfl) ?_
 rotate_left
 refine qd rfl Tryz.func263 rfl (by simp[Tryz.ntmps263]) (by kernel_rfl) (by kernel_rfl) ?_
 rotate_left
 all_goals
  have w:IntKind.i64.wrap 1=1:=by decide
  simp (maxSteps:=4000000) [w]
  refine qn (I:=fun q:Nat=>⟨[(0,.sl .sh []),(1,.int .i64 0),(2,.int .i64 0),(3,.fn g []),(8,.int .i64 1)],[],σ⟩) (Pr:=fun q=>True) (μ:=fun q=>q) (a:=0) (by simp) (by simp) ?_
  intro q hq
  simp (maxSteps:=4000000) []
theorem qkn (κ:K) (g:Nat) (σ:List (List AV)):ev κ.d.fT [.sl .sh [],.int .i64 0,.fn g []] σ=some (.tup [],σ):=by
 have hI:=qge κ g
 cases κ
 all_goals dsimp only[K.d] at hI ⊢
 refine qd rfl Tryz.func124 rfl (by simp[Tryz.ntmps124]) (by kernel_rfl) (by kernel_rfl) ?_
 rotate_left
 refine qd rfl Tryz.func130 rfl (by simp[Tryz.ntmps130]) (by kernel_rfl) (by kernel_rfl) ?_
 rotate_left
 refine qd rfl Tryz.func126 rfl (by simp[Tryz.ntmps126]) (by kernel_rfl) (by kernel_rfl) ?_
 rotate_left
 refine qd rfl Tryz.func240 rfl (by simp[Tryz.ntmps240]) (by kernel_rfl) (by kernel_rfl) ?_
 rotate_left
 all_goals
  simp (maxSteps:=4000000) []
  refine qn (I:=fun q:Nat=>⟨[(0,.sl .sh []),(1,.int .i64 0),(2,.fn g []),(6,.int .i64 20),(7,.int .i64 0),(8,.int .i64 20)],[],σ⟩) (Pr:=fun q=>True) (μ:=fun q=>q) (a:=0) (by simp) (by simp) ?_
  intro q hq
  simp (maxSteps:=4000000) [hI]
  refine qn (I:=fun q:Nat=>⟨[(0,.sl .sh []),(1,.int .i64 0),(2,.fn g []),(6,.int .i64 20)],[],σ⟩) (Pr:=fun q=>True) (μ:=fun q=>q) (a:=0) (by simp) (by simp) ?_
  intro q hq
  simp (maxSteps:=4000000) [Tryz.results124,Tryz.results130,Tryz.results126,Tryz.results240]
theorem qa8 (κ:K) (g:Nat) (σ:List (List AV)):ev κ.d.fA [.sl .sh [],.fn g []] σ=some (.tup [],σ):=by
 have h1:=qkn κ g
 cases κ
 all_goals dsimp only[K.d] at h1 ⊢
 refine qd rfl Tryz.func57 rfl (by simp[Tryz.ntmps57]) (by kernel_rfl) (by kernel_rfl) ?_
 rotate_left
 refine qd rfl Tryz.func64 rfl (by simp[Tryz.ntmps64]) (by kernel_rfl) (by kernel_rfl) ?_
 rotate_left
 refine qd rfl Tryz.func60 rfl (by simp[Tryz.ntmps60]) (by kernel_rfl) (by kernel_rfl) ?_
 rotate_left
 refine qd rfl Tryz.func188 rfl (by simp[Tryz.ntmps188]) (by kernel_rfl) (by kernel_rfl) ?_
 rotate_left
 all_goals simp (maxSteps:=4000000) [h1,Tryz.results57,Tryz.results64,Tryz.results60,Tryz.results188]
theorem qeb {α:Type} {E:α→List AV} {F:α→AV} (hF:∀x,F x=.agg (E x)) (l:List α):rowE E l=flat (l.map F):=by
 induction l with
 | nil=>rfl
 | cons a l ih=>unfold rowE at *;rw[List.flatMap_cons,ih,List.map_cons,flat_cons,hF];rfl
theorem qe0 {α:Type} {E:α→List AV} {F:α→AV} {sz:Nat} (hF:∀x,F x=.agg (E x)) (hl:∀x,(E x).length=sz) (hd:∀x,(E x).map dem=E x) (h0:0<sz) (l:List α):els2 true sz sz (flat (l.map F)) 0 l.length=some (l.map F):=by
 rw[qle,if_pos ⟨rfl,h0,by rw[← qeb hF,qhr hl];omega⟩]
 congr 1
 apply List.ext_getElem?
 intro i
 by_cases hi:i<l.length
 ·obtain⟨x,hx⟩:∃x,l[i]? = some x:=⟨_,List.getElem?_eq_getElem hi⟩
  have:=qlj (E:=E) (sz:=sz) hl hd hx
  rw[List.getElem?_map,List.getElem?_range hi,List.getElem?_map,hx,← qeb hF]
  simp only[Option.map_some,Nat.zero_add,this,hF]
 ·rw[List.getElem?_eq_none (by simpa using Nat.le_of_not_lt hi),List.getElem?_eq_none (by simpa using Nat.le_of_not_lt hi)]
theorem kkQ:KOk .q esQ 49 3:=⟨fun _=>rfl,rfl,rfl⟩
abbrev CmpOkQ (g:Nat) (c:Rq→Rq→Int) (Q:Rq→Prop):Prop:=CmpOkK .q esQ g c Q
theorem qgf {g:Nat} {c:Rq→Rq→Int} {Q:Rq→Prop} (h:CmpOkQ g c Q) (b:Nat) (σ:List (List AV)) (L:List (Rq)) (n:Nat) (hL:∀x∈L,Q x) (hn:L.length=n) (hN:n≤2^30) (hb:b<σ.length) :
  ev 57 [.ms 49 3 b 0 n,.fn g []] (σ.set b (rowE esQ L))=some (.tup [],σ.set b (rowE esQ (isrt c L))):=qbb kkQ h b σ L n hL hn hN hb
theorem qfu (g:Nat) (σ:List (List AV)):ev 57 [.sl .sh [],.fn g []] σ=some (.tup [],σ):=qa8 .q g σ
theorem kkT:KOk .t esT 53 2:=⟨fun _=>rfl,rfl,rfl⟩
abbrev CmpOkT (g:Nat) (c:Rt→Rt→Int) (Q:Rt→Prop):Prop:=CmpOkK .t esT g c Q
theorem qgg {g:Nat} {c:Rt→Rt→Int} {Q:Rt→Prop} (h:CmpOkT g c Q) (b:Nat) (σ:List (List AV)) (L:List (Rt)) (n:Nat) (hL:∀x∈L,Q x) (hn:L.length=n) (hN:n≤2^30) (hb:b<σ.length) :
  ev 64 [.ms 53 2 b 0 n,.fn g []] (σ.set b (rowE esT L))=some (.tup [],σ.set b (rowE esT (isrt c L))):=qbb kkT h b σ L n hL hn hN hb
theorem qfv (g:Nat) (σ:List (List AV)):ev 64 [.sl .sh [],.fn g []] σ=some (.tup [],σ):=qa8 .t g σ
theorem kkP:KOk .p esP 57 4:=⟨fun _=>rfl,rfl,rfl⟩
abbrev CmpOkP (g:Nat) (c:Rp→Rp→Int) (Q:Rp→Prop):Prop:=CmpOkK .p esP g c Q
theorem qgh {g:Nat} {c:Rp→Rp→Int} {Q:Rp→Prop} (h:CmpOkP g c Q) (b:Nat) (σ:List (List AV)) (L:List (Rp)) (n:Nat) (hL:∀x∈L,Q x) (hn:L.length=n) (hN:n≤2^30) (hb:b<σ.length) :
  ev 60 [.ms 57 4 b 0 n,.fn g []] (σ.set b (rowE esP L))=some (.tup [],σ.set b (rowE esP (isrt c L))):=qbb kkP h b σ L n hL hn hN hb
theorem qfw (g:Nat) (σ:List (List AV)):ev 60 [.sl .sh [],.fn g []] σ=some (.tup [],σ):=qa8 .p g σ
theorem kkM:KOk .m esM 55 2:=⟨fun _=>rfl,rfl,rfl⟩
abbrev CmpOkM (g:Nat) (c:Mo→Mo→Int) (Q:Mo→Prop):Prop:=CmpOkK .m esM g c Q
theorem qgi {g:Nat} {c:Mo→Mo→Int} {Q:Mo→Prop} (h:CmpOkM g c Q) (b:Nat) (σ:List (List AV)) (L:List (Mo)) (n:Nat) (hL:∀x∈L,Q x) (hn:L.length=n) (hN:n≤2^30) (hb:b<σ.length) :
  ev 188 [.ms 55 2 b 0 n,.fn g []] (σ.set b (rowE esM L))=some (.tup [],σ.set b (rowE esM (isrt c L))):=qbb kkM h b σ L n hL hn hN hb
theorem qfx (g:Nat) (σ:List (List AV)):ev 188 [.sl .sh [],.fn g []] σ=some (.tup [],σ):=qa8 .m g σ
end Go.Proofs.Tryz.Ai
end
section
namespace Go.Proofs.Tryz.Ai
open Go Go.AI Go.Proofs
set_option maxHeartbeats 2000000
set_option linter.unusedVariables false
theorem qgj (p:List UInt8) (hl:p.length≤2^30) (σ):ev 197 [.str p] σ=some (.bool (idsB p),σ):=by
 have hS:=qcz p hl 46
 have hw:∀τ:List (List AV),ev 137 [.str [45]] (σ++τ)=some (.fn 207 [.gp (σ.length+τ.length) 0 (some (9,1))],σ++(τ++[[.str [45]]])):=by
  intro τ;rw[qpa];simp
 obtain⟨L,hL⟩:∃L,splitB 46 p=L:=⟨_,rfl⟩
 have hm:∀x∈L,x.length≤2^30:=fun x hx=>Nat.le_trans (qbd (hL▸hx)) hl
 have hn:L.length≤2^31:=by rw[← hL];have:=qa9 46 p;omega
 have hAll:idsB p=L.all idB:=by unfold idsB;rw[hL]
 rw[hL] at hS
 refine qd rfl Tryz.func197 rfl (by simp[Tryz.ntmps197]) (by kernel_rfl) (by kernel_rfl) ?_
 simp (maxSteps:=4000000) [hS]
 refine qn (I:=fun q:Nat×List (List AV)=>⟨[(6,.sl (.ex 9 1) (L.map .str)),(7,.int .i64 L.length),(8,.int .i64 q.1)],[],σ++q.2⟩) (Pr:=fun q=>q.1≤L.length∧∀x∈L.take q.1,idB x=true) (μ:=fun q=>L.length-q.1) (a:=(0,[])) (by simp) (by simp) ?_
 rintro⟨i,τ⟩ ⟨hi,ha⟩
 simp only at hi ha ⊢
 by_cases hc:i<L.length
 ·obtain⟨x,hx⟩:∃x,L[i]=x:=⟨_,rfl⟩
  have hx2:L[i]? = some x:=by rw[← hx];exact List.getElem?_eq_getElem hc
  have hxl:=hm x (hx▸List.getElem_mem hc)
  have h1:=qpb x [45] (by omega) (σ.length+τ.length) (some (9,1)) (σ++(τ++[[.str [45]]])) (by simp)
  have h2:=qft x (by omega) (σ++(τ++[[.str [45]]]))
  have h3:=plain_eq x (σ++(τ++[[.str [45]]]))
  have w6:IntKind.i64.wrap ((i:Int)+1)=(i:Int)+1:=qk (by omega)
  by_cases hq:idB x=true
  ·have hn:∀y∈L.take (i+1),idB y=true:=take_all hc ha (by rw[hx];exact hq)
   unfold idB at hq
   simp only[Bool.and_eq_true,Bool.not_eq_true'] at hq
   by_cases hd:allB isD x=true
   ·have hp:plainB x=true:=by simpa[hd] using hq.2
    simp (maxSteps:=4000000) [-getElem?_pos,hc,hx2,hw,h1,h2,h3,hq.1,hd,hp,w6]
    exact⟨i+1,⟨by omega,hn⟩,by omega,by simp⟩
   ·simp (maxSteps:=4000000) [-getElem?_pos,hc,hx2,hw,h1,h2,h3,hq.1,hd,w6]
    exact⟨i+1,⟨by omega,hn⟩,by omega,by simp⟩
  ·have hf:idsB p=false:=by rw[hAll,Bool.eq_false_iff];intro h;exact hq (List.all_eq_true.1 h _ (hx▸List.getElem_mem hc))
   by_cases ha:allB (wordB [45]) x=true
   ·by_cases hd:allB isD x=true
    ·have hp:plainB x=false:=by simpa[idB,ha,hd] using hq
     simp (maxSteps:=4000000) [-getElem?_pos,hc,hx2,hw,h1,h2,h3,ha,hd,hp,hf,Tryz.results197]
    ·exact absurd (by simp[idB,ha,hd]) hq
   ·simp (maxSteps:=4000000) [-getElem?_pos,hc,hx2,hw,h1,h2,h3,ha,hf,Tryz.results197]
 ·have hi':i=L.length:=by omega
  subst hi'
  rw[List.take_length] at ha
  have ht:idsB p=true:=by rw[hAll];exact List.all_eq_true.2 ha
  simp (maxSteps:=4000000) [ht,Tryz.results197]
def verA:Option Ver→AV
 | some v=>.agg [.int .i64 v.ma,.int .i64 v.mi,.int .i64 v.pa,.str v.pre]
 | none=>.agg [.int .i64 0,.int .i64 0,.int .i64 0,.str []]
theorem qpd {r:List UInt8} (h:(splitB 46 r).length≠3):coreOf r=none:=by
 unfold coreOf
 split
 ·rename_i a b c hs;rw[hs] at h;simp at h
 ·rfl
theorem qh6 (s:List UInt8) (hl:s.length≤2^30) (σ):ev 127 [.str s] σ=some (.tup [verA (readB s),.bool (readB s).isSome],σ):=by
 have hp:=fun a b=>HasPrefix_eq a b
 refine qd rfl Tryz.func127 rfl (by simp[Tryz.ntmps127]) (by kernel_rfl) (by kernel_rfl) ?_
 by_cases h60:60<s.length
 ·have hr:readB s=none:=by simp[readB,h60]
  simp (maxSteps:=4000000) [h60,hr,verA,Tryz.results127]
 ·cases s with
  | nil=>simp (maxSteps:=4000000) [hp,readB,verA,Tryz.results127]
  | cons c r =>
   by_cases hc:c=118
   ·subst hc
    have hr:readB (118::r)=match coreOf (cutB 45 r).1 with
      | none=>none
      | some (x,y,z)=>if (cutB 45 r).2.2&&!idsB (cutB 45 r).2.1 then none else some ⟨x,y,z,(cutB 45 r).2.1⟩:=by
     unfold readB;rw[if_neg h60];rfl
    simp only[List.length_cons] at h60 hl
    have hcl:=qok 45 r
    obtain⟨⟨k,p,b⟩,hk⟩:∃x,cutB 45 r=x:=⟨_,rfl⟩
    have hC:=qo9 r (by omega) 45
    rw[hk] at hC hr hcl
    simp only at hC hr hcl
    have hS:=qcz k (by omega) 46
    have hI:=qgj p (by omega)
    have h61:¬(60:Int)<(r.length:Int)+1:=by omega
    have v1:IntKind.i64.wrap ((r.length:Int)+1)=(r.length:Int)+1:=qk (by omega)
    have v2:List.isPrefixOf [(118:UInt8)] (118::r)=true:=by simp[List.isPrefixOf]
    by_cases h3:(splitB 46 k).length=3
    ·obtain⟨x,y,z,hxyz⟩:∃x y z,splitB 46 k=[x,y,z]:=by
      match hq:splitB 46 k,h3 with
      | [x,y,z],_=>exact⟨x,y,z,rfl⟩
     have hmem:∀w∈splitB 46 k,w.length≤2^30:=fun w hw=>by have:=qbd hw;omega
     rw[hxyz] at hS hmem
     have nx:=qb9 x (by have:=hmem x (by simp);omega)
     have ny:=qb9 y (by have:=hmem y (by simp);omega)
     have nz:=qb9 z (by have:=hmem z (by simp);omega)
     have hco:coreOf k=match numB x,numB y,numB z with
       | some x,some y,some z=>some (x,y,z)
       | _,_,_=>none:=by simp only[coreOf,hxyz];cases numB x<;>cases numB y<;>cases numB z<;>rfl
     rw[hco] at hr
     simp only[List.map_cons,List.map_nil] at hS
     cases ex:numB x with
     | none =>
      rw[ex] at nx hr
      simp (maxSteps:=4000000) [hp,v1,v2,h61,hC,hS,nx,ny,nz,hr,verA,Tryz.results127]
     | some x' =>
      cases ey:numB y with
      | none =>
       rw[ex] at nx;rw[ey] at ny;rw[ex,ey] at hr
       simp (maxSteps:=4000000) [hp,v1,v2,h61,hC,hS,nx,ny,nz,hr,verA,Tryz.results127]
      | some y' =>
       cases ez:numB z with
       | none =>
        rw[ex] at nx;rw[ey] at ny;rw[ez] at nz;rw[ex,ey,ez] at hr
        simp (maxSteps:=4000000) [hp,v1,v2,h61,hC,hS,nx,ny,nz,hr,verA,Tryz.results127]
       | some z' =>
        rw[ex] at nx;rw[ey] at ny;rw[ez] at nz;rw[ex,ey,ez] at hr
        simp only at hr
        cases b with
        | false=>simp (maxSteps:=4000000) [hp,v1,v2,h61,hC,hS,nx,ny,nz,hr,verA,Tryz.results127]
        | true =>
         by_cases hi:idsB p=true
         ·rw[hi] at hr hI
          simp (maxSteps:=4000000) [hp,v1,v2,h61,hC,hS,nx,ny,nz,hI,hr,verA,Tryz.results127]
         ·have hi:idsB p=false:=by simpa using hi
          rw[hi] at hr hI
          simp (maxSteps:=4000000) [hp,v1,v2,h61,hC,hS,nx,ny,nz,hI,hr,verA,Tryz.results127]
    ·rw[qpd h3] at hr
     have h3':¬((splitB 46 k).length:Int)=3:=by omega
     simp (maxSteps:=4000000) [hp,v1,v2,h61,hC,hS,h3,hr,verA,Tryz.results127]
   ·have hr:readB (c::r)=none:=by unfold readB;rw[if_neg h60];simp[hc]
    have v2:List.isPrefixOf [(118:UInt8)] (c::r)=false:=by simp[List.isPrefixOf];exact fun e=>hc e.symm
    simp only[List.length_cons] at h60
    have h61:¬(60:Int)<(r.length:Int)+1:=by omega
    simp (maxSteps:=4000000) [hp,h61,v2,hr,verA,Tryz.results127]
end Go.Proofs.Tryz.Ai
end
section
namespace Go.Proofs.Tryz.Ai
open Go Go.AI Go.Proofs
set_option maxHeartbeats 2000000
set_option linter.unusedVariables false
def orL (l:List Int):Int:=l.foldr orI 0
def intC (x y:Int):Int:=if x<y then -1 else if y<x then 1 else 0
theorem qsr (a b:Nat):intC a b=natC a b:=by unfold intC natC;simp only[Int.ofNat_lt]
theorem qlm (x:Int):orI x 0=x:=by unfold orI;split<;>omega
theorem qln (l:List Int) (i:Nat) (h:∀x∈l.take i,x=0):orL l=orL (l.drop i):=by
 induction l generalizing i with
 | nil=>simp
 | cons a r ih =>
  cases i with
  | zero=>rfl
  | succ i =>
   simp only[List.take_succ_cons,List.mem_cons,forall_eq_or_imp] at h
   rw[List.drop_succ_cons,← ih i h.2]
   simp[orL,orI,h.1]
theorem qd2 (l:List Int) (hl:l.length≤2^31) (σ):ev 62 [.sl .sh (l.map (.int .i64))] σ=some (.int .i64 (orL l),σ):=by
 refine qd rfl Tryz.func62 rfl (by simp[Tryz.ntmps62]) (by kernel_rfl) (by kernel_rfl) ?_
 simp (maxSteps:=4000000) (disch:=omega) [dT,dF,qk]
 refine qn (I:=fun i:Nat=>⟨[(3,.int .i64 0),(6,.sl .sh (l.map (.int .i64))),(7,.int .i64 l.length),(8,.int .i64 i)],[],σ⟩) (Pr:=fun i=>i≤l.length∧∀x∈l.take i,x=0) (μ:=fun i=>l.length-i) (a:=0) (by simp) (by simp) ?_
 rintro i ⟨hi,hn⟩
 by_cases hc:i<l.length
 ·obtain⟨x,hx⟩:∃x,l[i]=x:=⟨_,rfl⟩
  have hx2:l[i]? = some x:=by rw[← hx];exact List.getElem?_eq_getElem hc
  have w6:IntKind.i64.wrap ((i:Int)+1)=(i:Int)+1:=qk (by omega)
  have hd:=qln l i hn
  rw[List.drop_eq_getElem_cons hc,hx] at hd
  by_cases hq:x=0
  ·simp (maxSteps:=4000000) [-getElem?_pos,hc,hx2,hq,w6]
   exact⟨i+1,⟨by omega,take_all (p:=id) hc hn (hx.trans hq)⟩,by omega,by simp⟩
  ·have h2:orL l=x:=by rw[hd];simp[orL,orI,hq]
   simp (maxSteps:=4000000) [-getElem?_pos,hc,hx2,hq,h2,Tryz.results62]
 ·have hi':i=l.length:=by omega
  subst hi'
  have hd:=qln l _ hn
  simp only[List.drop_length] at hd
  have h2:orL l=0:=hd
  simp (maxSteps:=4000000) [h2,Tryz.results62]
theorem qpe (x y:Int) (σ):ev 128 [.int .i64 x,.int .i64 y] σ=some (.int .i64 (intC x y),σ):=by
 have hn:∀z σ,ev 198 [.int .i64 z] σ=some (.bool false,σ):=by
  intro z σ
  refine qd rfl Tryz.func198 rfl (by simp[Tryz.ntmps198]) (by kernel_rfl) (by kernel_rfl) ?_
  simp (maxSteps:=4000000) [Tryz.results198]
 refine qd rfl Tryz.func128 rfl (by simp[Tryz.ntmps128]) (by kernel_rfl) (by kernel_rfl) ?_
 by_cases h1:x<y
 ·simp (maxSteps:=4000000) [hn,h1,intC,Tryz.results128]
 ·by_cases h2:y<x
  ·simp (maxSteps:=4000000) [hn,h1,h2,intC,Tryz.results128]
  ·simp (maxSteps:=4000000) [hn,h1,h2,intC,Tryz.results128]
theorem qc0 (x y:Nat) (σ):ev 128 [.int .i64 x,.int .i64 y] σ=some (.int .i64 (natC x y),σ):=by rw[qpe,qsr]
theorem qca (a b:List UInt8) (σ):ev 59 [.str a,.str b] σ=some (.int .i64 (bytesC a b),σ):=by
 have h1:∀σ,ev 125 [.str a,.str b] σ=some (.int .i64 (bytesC a b),σ):=fun σ=>by rw[qmj];simp[compareT,qfn]
 refine qd rfl Tryz.func59 rfl (by simp[Tryz.ntmps59]) (by kernel_rfl) (by kernel_rfl) ?_
 simp (maxSteps:=4000000) [h1,Tryz.results59]
theorem qgk (L M:List (List UInt8)) (hL:L.length≤2^31) (hM:M.length≤2^31) (g:Nat) (cap:List AV) (c:List UInt8→List UInt8→Int) (hg:g<100000) (σ:List (List AV))
  (hp:∀a∈L,∀b∈M,ev g (.str a::.str b::cap) σ=some (.int .i64 (c a b),σ)) :
  ev 199 [.sl .sh (L.map .str),.sl .sh (M.map .str),.fn g cap] σ=some (.int .i64 (lexC c L M),σ):=by
 refine qd rfl Tryz.func199 rfl (by simp[Tryz.ntmps199]) (by kernel_rfl) (by kernel_rfl) ?_
 simp (maxSteps:=4000000) (disch:=omega) [dT,dF,qk]
 refine qn (I:=fun i:Nat=>⟨[(0,.sl .sh (L.map .str)),(1,.sl .sh (M.map .str)),(2,.fn g cap),(11,.sl .sh (L.map .str)),(12,.int .i64 L.length),(13,.int .i64 i)],[],σ⟩)
  (Pr:=fun i=>i≤L.length∧i≤M.length∧lexC c L M=lexC c (L.drop i) (M.drop i)) (μ:=fun i=>L.length-i) (a:=0) (by simp) (by simp) ?_
 rintro i ⟨hi,hj,hn⟩
 by_cases hc:i<L.length
 ·obtain⟨x,hx⟩:∃x,L[i]=x:=⟨_,rfl⟩
  have hx2:L[i]? = some x:=by rw[← hx];exact List.getElem?_eq_getElem hc
  have w6:IntKind.i64.wrap ((i:Int)+1)=(i:Int)+1:=qk (by omega)
  rw[List.drop_eq_getElem_cons hc,hx] at hn
  by_cases hd:i<M.length
  ·obtain⟨y,hy⟩:∃y,M[i]=y:=⟨_,rfl⟩
   have hy2:M[i]? = some y:=by rw[← hy];exact List.getElem?_eq_getElem hd
   have hd':¬M.length≤i:=by omega
   rw[List.drop_eq_getElem_cons hd,hy] at hn
   have hq:=hp x (hx▸List.getElem_mem hc) y (hy▸List.getElem_mem hd)
   by_cases hz:c x y=0
   ·have h2:lexC c L M=lexC c (L.drop (i+1)) (M.drop (i+1)):=by rw[hn];simp[lexC,orI,hz]
    simp (maxSteps:=4000000) [-getElem?_pos,hc,hd,hd',hx2,hy2,hg,hq,hz,w6]
    exact⟨i+1,⟨by omega,by omega,h2⟩,by omega,by simp⟩
   ·have h2:lexC c L M=c x y:=by rw[hn];simp[lexC,orI,hz]
    simp (maxSteps:=4000000) [-getElem?_pos,hc,hd,hd',hx2,hy2,hg,hq,hz,h2,Tryz.results199]
  ·have hd':M.length≤i:=by omega
   have h3:M.drop i=[]:=List.drop_of_length_le hd'
   have h2:lexC c L M=1:=by rw[hn,h3];simp[lexC]
   simp (maxSteps:=4000000) [-getElem?_pos,hc,hd,hd',hx2,h2,Tryz.results199]
 ·have hi':i=L.length:=by omega
  subst hi'
  rw[List.drop_length] at hn
  by_cases hd:L.length<M.length
  ·have h2:lexC c L M=-1:=by rw[hn,List.drop_eq_getElem_cons hd];simp[lexC]
   simp (maxSteps:=4000000) [hd,h2,Tryz.results199]
  ·have h2:lexC c L M=0:=by rw[hn,List.drop_of_length_le (by omega)];simp[lexC]
   simp (maxSteps:=4000000) [hd,h2,Tryz.results199]
theorem qss (a b:List UInt8) (ha:a.length≤2^31) (hb:b.length≤2^31) (σ):ev 200 [.str a,.str b] σ=some (.int .i64 (idC a b),σ):=by
 have h1:=qft a ha
 have h2:=qft b hb
 have h3:=qca a b
 have h4:=qc0 a.length b.length
 have h5:=fun σ=>qd2 [natC a.length b.length,bytesC a b] (by simp) σ
 have h6:orL [natC a.length b.length,bytesC a b]=orI (natC a.length b.length) (bytesC a b):=by simp only[orL,List.foldr_cons,List.foldr_nil,qlm]
 rw[h6] at h5
 simp only[List.map_cons,List.map_nil] at h5
 refine qd rfl Tryz.func200 rfl (by simp[Tryz.ntmps200]) (by kernel_rfl) (by kernel_rfl) ?_
 by_cases d1:allB isD a=true
 ·by_cases d2:allB isD b=true
  ·simp (maxSteps:=4000000) [h1,h2,h3,h4,h5,d1,d2,idC,Tryz.results200]
  ·simp (maxSteps:=4000000) [h1,h2,h3,d1,d2,idC,Tryz.results200]
 ·by_cases d2:allB isD b=true
  ·simp (maxSteps:=4000000) [h1,h2,h3,d1,d2,idC,Tryz.results200]
  ·simp (maxSteps:=4000000) [h1,h2,h3,d1,d2,idC,Tryz.results200]
theorem qv2 (a b:List UInt8) (ha:a.length≤2^30) (hb:b.length≤2^30) (σ):ev 129 [.str a,.str b] σ=some (.int .i64 (presC a b),σ):=by
 have hmin:∀l:List UInt8,(if 1<l.length then (1:Int) else l.length)=((min l.length 1:Nat):Int):=by intro l;split<;>omega
 have h1:=qc0 (min b.length 1) (min a.length 1)
 have h2:=qcz a ha 46
 have h3:=qcz b hb 46
 have h4:=fun σ=>qgk (splitB 46 a) (splitB 46 b) (by have:=qa9 46 a;omega) (by have:=qa9 46 b;omega) 200 [] idC (by decide) σ
  (fun x hx y hy=>qss x y (by have:=qbd hx;omega) (by have:=qbd hy;omega) σ)
 refine qd rfl Tryz.func129 rfl (by simp[Tryz.ntmps129]) (by kernel_rfl) (by kernel_rfl) ?_
 by_cases e1:a=[]
 ·subst e1
  have h5:presC [] b=natC (min b.length 1) 0:=by simp[presC]
  have h1':∀σ,ev 128 [.int .i64 ((min b.length 1:Nat):Int),.int .i64 0] σ=some (.int .i64 (natC (min b.length 1) 0),σ):=h1
  simp (maxSteps:=4000000) [hmin,h1',h5,Tryz.results129]
 ·by_cases e2:b=[]
  ·subst e2
   have h5:presC a []=natC 0 (min a.length 1):=by simp[presC]
   have h1':∀σ,ev 128 [.int .i64 0,.int .i64 ((min a.length 1:Nat):Int)] σ=some (.int .i64 (natC 0 (min a.length 1)),σ):=h1
   have e1':a.isEmpty=false:=by simpa using e1
   simp (maxSteps:=4000000) [e1',hmin,h1',h5,Tryz.results129]
  ·have h5:presC a b=lexC idC (splitB 46 a) (splitB 46 b):=by simp[presC,e1,e2]
   have e1':a.isEmpty=false:=by simpa using e1
   have e2':b.isEmpty=false:=by simpa using e2
   simp (maxSteps:=4000000) [e1',e2',h2,h3,h4,h5,Tryz.results129]
theorem qfy (a b:List UInt8) (ha:a.length≤2^30) (hb:b.length≤2^30) (σ):ev 63 [.str a,.str b] σ=some (.int .i64 (cmpB a b),σ):=by
 have h1:=qh6 a ha
 have h2:=qh6 b hb
 have h3:=qca a b
 refine qd rfl Tryz.func63 rfl (by simp[Tryz.ntmps63]) (by kernel_rfl) (by kernel_rfl) ?_
 cases e1:readB a with
 | none =>
  rw[e1] at h1
  cases e2:readB b with
  | none =>
   rw[e2] at h2
   have h4:cmpB a b=bytesC a b:=by simp[cmpB,e1,e2]
   simp (maxSteps:=4000000) [h1,h2,h3,h4,verA,Tryz.results63]
  | some y =>
   rw[e2] at h2
   have h4:cmpB a b=-1:=by simp[cmpB,e1,e2]
   simp (maxSteps:=4000000) [h1,h2,h3,h4,verA,Tryz.results63]
 | some x =>
  rw[e1] at h1
  cases e2:readB b with
  | none =>
   rw[e2] at h2
   have h4:cmpB a b=1:=by simp[cmpB,e1,e2]
   simp (maxSteps:=4000000) [h1,h2,h3,h4,verA,Tryz.results63]
  | some y =>
   rw[e2] at h2
   have h4:cmpB a b=verC x y:=by simp[cmpB,e1,e2]
   have rx:=qc8 e1
   have ry:=qc8 e2
   have p1:x.pre.length≤2^30:=by
    have:=rx.len;rw[rx.text] at this;unfold verT at this;split at this
    ·rename_i q;rw[q];simp
    ·simp at this;omega
   have p2:y.pre.length≤2^30:=by
    have:=ry.len;rw[ry.text] at this;unfold verT at this;split at this
    ·rename_i q;rw[q];simp
    ·simp at this;omega
   have h5:=qc0 x.ma y.ma
   have h6:=qc0 x.mi y.mi
   have h7:=qc0 x.pa y.pa
   have h8:=qv2 x.pre y.pre p1 p2
   have h9:=fun σ=>qd2 [natC x.ma y.ma,natC x.mi y.mi,natC x.pa y.pa,presC x.pre y.pre] (by simp) σ
   have ha:orL [natC x.ma y.ma,natC x.mi y.mi,natC x.pa y.pa,presC x.pre y.pre]=verC x y:=by
    unfold verC;simp only[orL,List.foldr_cons,List.foldr_nil,qlm]
   rw[ha] at h9
   simp only[List.map_cons,List.map_nil] at h9
   simp (maxSteps:=4000000) [h1,h2,h3,h4,h5,h6,h7,h8,h9,verA,Tryz.results63]
end Go.Proofs.Tryz.Ai
end
section
namespace Go.AI
end Go.AI
namespace Go.Proofs.Tryz.Ai
open Go Go.AI Go.Proofs
set_option maxHeartbeats 2000000
set_option linter.unusedVariables false
end Go.Proofs.Tryz.Ai
end
section
namespace Go.Proofs.Tryz.Ai
open Go Go.AI Go.Proofs
set_option maxHeartbeats 2000000
set_option linter.unusedVariables false
theorem qyo (s:List UInt8) (hl:s.length≤2^30) (c:UInt8) (σ):ev 23 [.str s,.int .u8 c.toNat] σ=some (.sl (.ex 9 1) ((splitB c s).map .str),σ):=by
 refine qd rfl Tryz.func23 rfl (by simp[Tryz.ntmps23]) (by kernel_rfl) (by kernel_rfl) ?_
 simp (maxSteps:=4000000) (disch:=omega) [dT,dF,qk]
 refine qn (I:=fun p:List (List UInt8)×Nat×Nat=>⟨[(0,.str s),(1,.int .u8 c.toNat),(5,.sl (.ex 9 1) (p.1.map .str)),(6,.int .i64 p.2.1),(7,.int .i64 p.2.2)],[],σ⟩)
  (Pr:=fun p=>(p.2.2≤s.length∧p.2.1≤p.2.2∧c∉(s.take p.2.2).drop p.2.1∧p.1++splitB c (s.drop p.2.1)=splitB c s)∨(p.2.2=s.length+1∧p.1=splitB c s)) (μ:=fun p=>s.length+1-p.2.2) (a:=([],0,0)) (by simp) (by simp) ?_
 rintro⟨a,f,i⟩ h
 simp only at h ⊢
 rcases h with ⟨hi,hf,hn,he⟩|⟨hi,he⟩
 ·have hlen:a.length+1≤most:=by
   have h1:=congrArg List.length he
   have h2:=qa9 c s
   have h3:=qa0 c (s.drop f)
   have h4:(splitB c (s.drop f)).length≠0:=fun e=>h3 (List.length_eq_zero_iff.1 e)
   simp only[List.length_append] at h1
   unfold most;omega
  have e0:IntKind.i64.wrap ((i:Int)+1)=(i:Int)+1:=qk (by omega)
  by_cases hc:i<s.length
  ·obtain⟨x,hcx⟩:∃x,s[i]=x:=⟨_,rfl⟩
   have hx:s[i]? = some x:=by rw[← hcx];exact List.getElem?_eq_getElem hc
   have hne:¬i=s.length:=by omega
   by_cases d:x=c
   ·have hs:s.drop f=(s.take i).drop f++c::s.drop (i+1):=by
     have h1:s=s.take i++c::s.drop (i+1):=by
      rw[← d,← hcx,← List.drop_eq_getElem_cons hc,List.take_append_drop]
     conv=>lhs;rw[h1]
     rw[List.drop_append_of_le_length (by simp;omega)]
    rw[hs,qd8 hn] at he
    subst d
    simp (maxSteps:=4000000) [-getElem?_pos,hi,hne,hx,hf,e0,hlen]
    refine⟨a++[(s.take i).drop f],i+1,i+1,.inl ⟨by omega,by omega,?_,?_⟩,by omega,by simp,by simp,by simp⟩
    ·rw[List.drop_of_length_le (by simp;omega)];simp
    ·rw[List.append_assoc,← he];rfl
   ·simp (maxSteps:=4000000) [-getElem?_pos,hi,hne,hx,d,e0]
    refine⟨a,f,i+1,.inl ⟨by omega,by omega,?_,he⟩,by omega,by simp⟩
    rw[List.take_succ_eq_append_getElem hc,hcx]
    intro h
    rcases List.mem_append.1 (List.mem_of_mem_drop h) with q|q
    ·rw[List.drop_append] at h
     rcases List.mem_append.1 h with h|h
     ·exact hn h
     ·have:=List.mem_of_mem_drop h;simp at this;exact d this.symm
    ·simp at q;exact d q.symm
  ·have hi':i=s.length:=by omega
   subst hi'
   rw[List.take_length] at hn
   rw[qc7 hn] at he
   simp (maxSteps:=4000000) [hf,e0,hlen]
   exact⟨a++[s.drop f],_,_,.inr ⟨rfl,he⟩,by omega,by simp,rfl,by simp⟩
 ·subst hi he
  have hz:¬(s.length:Int)+1≤s.length:=by omega
  simp (maxSteps:=4000000) [hz,Tryz.results23]
end Go.Proofs.Tryz.Ai
end
section
namespace Go.Proofs.Tryz.Ai
open Go Go.AI Go.Proofs
set_option maxHeartbeats 4000000
set_option linter.unusedVariables false
def rpartsA:Option Ver→AV
 | some v=>.tup [.int .i64 v.ma,.int .i64 v.mi,.int .i64 v.pa,.str v.pre,.bool true]
 | none=>.tup [.int .i64 0,.int .i64 0,.int .i64 0,.str [],.bool false]
end Go.Proofs.Tryz.Ai
end
section
namespace Go.Proofs.Tryz.Ai
open Go Go.AI Go.Proofs
set_option maxHeartbeats 2000000
set_option linter.unusedVariables false
end Go.Proofs.Tryz.Ai
end
section
namespace Go.Proofs.Tryz.Ai
open Go Go.AI Go.Proofs
set_option maxHeartbeats 2000000
set_option linter.unusedVariables false
def modA (m:List UInt8×List UInt8):AV:=.agg [.str m.1,.str m.2]
def modC (a b:List UInt8×List UInt8):Int:=orI (bytesC a.1 b.1) (cmpB a.2 b.2)
theorem TO.modC:TO modC:=TO.bytes.prod TO.cmp
def modQ (m:List UInt8×List UInt8):Prop:=m.1.length≤2^30∧m.2.length≤2^30
theorem qpf (a b:List UInt8×List UInt8) (ha:modQ a) (hb:modQ b) (σ):ev 123 [.agg [.str a.1,.str a.2],.agg [.str b.1,.str b.2]] σ=some (.int .i64 (modC a b),σ):=by
 have h1:=qca a.1 b.1
 have h2:=qfy a.2 b.2 ha.2 hb.2
 have h3:=qd2 [bytesC a.1 b.1,cmpB a.2 b.2] (by simp)
 have h4:modC a b=orL [bytesC a.1 b.1,cmpB a.2 b.2]:=by
  unfold modC
  simp only[orL,List.foldr,orI]
  split
  ·split
   ·assumption
   ·rfl
  ·rfl
 simp only[List.map_cons,List.map_nil] at h3
 refine qd rfl Tryz.func123 rfl (by simp[Tryz.ntmps123]) (by kernel_rfl) (by kernel_rfl) ?_
 simp (maxSteps:=4000000) [h1,h2,h3,h4,Tryz.results123]
theorem qv3:CmpOkM 123 modC modQ:=⟨TO.modC.tp,by decide,fun x y hx hy σ=>qpf x y hx hy σ⟩
theorem qpg (l:List (List UInt8×List UInt8)):rowE esM l=flat (l.map modA):=qeb (fun _=>rfl) l
theorem qst (l:List (List UInt8×List UInt8)):els2 true 2 2 (flat (l.map modA)) 0 l.length=some (l.map modA):=qe0 (E:=esM) (fun _=>rfl) (fun _=>rfl) (fun _=>rfl) (by decide) l
@[simp] theorem qsu {l:List (List UInt8×List UInt8)}:allCells 2 (l.map modA)↔True:=⟨fun _=>trivial,fun _ z hz=>by
 obtain⟨w,_,rfl⟩:=List.mem_map.1 hz
 simp[modA,AV.cells]⟩
theorem qmp {g:Nat} {c:List UInt8×List UInt8→List UInt8×List UInt8→Int} {Q:List UInt8×List UInt8→Prop} (h:CmpOkM g c Q) (l:List (List UInt8×List UInt8)) (hl:l.length≤2^30) (hQ:∀x∈l,Q x) (σ:List (List AV)) :
  ev 122 [.sl .sh (l.map modA),.fn g []] σ=some (.sl (.ex 55 2) ((isrt c l).map modA),σ):=by
 cases l with
 | nil =>
  have hS:=qfx g
  refine qd rfl Tryz.func122 rfl (by simp[Tryz.ntmps122]) (by kernel_rfl) (by kernel_rfl) ?_
  simp (maxSteps:=4000000) [hS,isrt,Tryz.results122]
 | cons x r =>
  have hS:=qgi h σ.length (σ++[[]]) (x::r) (r.length+1) hQ (by simp) (by simpa using hl) (by simp)
  rw[qpg,qpg] at hS
  obtain⟨L,hL⟩:∃L,isrt c (x::r)=L:=⟨_,rfl⟩
  have hLl:L.length=r.length+1:=by rw[← hL,q9];simp
  have hE:=qst L
  rw[hL] at hS ⊢
  rw[hLl] at hE
  have hlow:lowL σ.length (L.map modA):=by simp[modA]
  have hall:allCells 2 (r.map modA):=by
   intro z hz
   obtain⟨w,_,rfl⟩:=List.mem_map.1 hz
   simp[modA,AV.cells]
  simp[modA] at hS hl
  refine qd rfl Tryz.func122 rfl (by simp[Tryz.ntmps122]) (by kernel_rfl) (by kernel_rfl) ?_
  simp (maxSteps:=4000000) [hS,hE,hlow,hall,modA,Tryz.results122]
  repeat (rw[ql];rotate_left;(· (try unfold most);omega);simp (maxSteps:=4000000) [hS,hE,hlow,hall,modA,Tryz.results122])
theorem qko (l:List (List UInt8×List UInt8)) (hl:l.length≤2^30) (hQ:∀x∈l,modQ x) (σ:List (List AV)):ev 54 [.sl .sh (l.map modA)] σ=some (.sl (.ex 55 2) ((isrt modC l).map modA),σ):=by
 have h:=qmp qv3 l hl hQ
 refine qd rfl Tryz.func54 rfl (by simp[Tryz.ntmps54]) (by kernel_rfl) (by kernel_rfl) ?_
 simp (maxSteps:=4000000) [h,Tryz.results54]
end Go.Proofs.Tryz.Ai
end
section
namespace Go.AI
section
variable {P:Program} {h:Hint} {C:Oracle}
theorem qjj {ops:List Oper} {d:Bool} {st:St} {F:St→St} {K:Ex→St→Prop} (st2:St) (e:bnd (regionA P h C ops d st) (fun st=>some (F st))=some st2) (k:K .normal st2):Post (bnd (regionA P h C ops d st) fun st=>some (Ex.normal,F st)) K:=by
 obtain⟨s,h1,h2⟩:=qa e
 injection h2 with h2
 exact⟨_,_,by rw[h1];rfl,by rw[h2];exact k⟩
theorem qec {ops:List Oper} {st:St} {F:St→St} {st2:St} (ds:List Nat) (st0:St) (e:allocDs ops=ds) (e0:startD ds st=st0)
  (k:PostD (runD P h C ds ops ops st0) fun s=>F s=st2):bnd (regionA P h C ops true st) (fun st=>some (F st))=some st2:=by
 obtain⟨s,h1,h2⟩:=k
 rw[regionA,if_pos rfl,e,e0,h1]
 show some (F s)=some st2
 rw[h2]
end
end Go.AI
namespace Go.Proofs.Tryz.Ai
open Go Go.AI Go.Proofs
set_option maxHeartbeats 4000000
set_option maxRecDepth 4000
set_option linter.unusedVariables false
theorem qt5 (e:Int) (σ):ev 15 [.int .i64 e] σ=some (.int .i64 e,σ):=by
 refine qd rfl Tryz.func15 rfl (by simp[Tryz.ntmps15]) (by kernel_rfl) (by kernel_rfl) ?_
 simp (maxSteps:=4000000) [Tryz.results15]
theorem qaw (b:Bool) (e:Int) (σ):ev 69 [.bool b,.int .i64 e] σ=some (.int .i64 (if b then e else 0),σ):=by
 refine qd rfl Tryz.func69 rfl (by simp[Tryz.ntmps69]) (by kernel_rfl) (by kernel_rfl) ?_
 cases b<;>simp (maxSteps:=4000000) [Tryz.results69]
def fstE (l:List Int):Int:=l.foldr orI 0
theorem fstE_drop (l:List Int) (i:Nat) (h:∀x∈l.take i,x=0):fstE l=fstE (l.drop i):=by
 induction l generalizing i with
 | nil=>simp
 | cons a r ih =>
  cases i with
  | zero=>rfl
  | succ i =>
   simp only[List.take_succ_cons,List.mem_cons,forall_eq_or_imp] at h
   rw[List.drop_succ_cons,← ih i h.2]
   simp[fstE,orI,h.1]
theorem qam (l:List Int) (hl:l.length≤2^30) (σ):ev 67 [.sl .sh (l.map (.int .i64))] σ=some (.int .i64 (fstE l),σ):=by
 refine qd rfl Tryz.func67 rfl (by simp[Tryz.ntmps67]) (by kernel_rfl) (by kernel_rfl) ?_
 simp (maxSteps:=4000000) []
 refine qn (I:=fun i:Nat=>⟨[(5,.sl .sh (l.map (.int .i64))),(6,.int .i64 l.length),(7,.int .i64 i)],[],σ⟩) (Pr:=fun i=>i≤l.length∧∀x∈l.take i,x=0) (μ:=fun i=>l.length-i) (a:=0) (by simp) (by simp) ?_
 rintro i ⟨hi,hn⟩
 by_cases hc:i<l.length
 ·obtain⟨x,hx⟩:∃x,l[i]=x:=⟨_,rfl⟩
  have hx2:l[i]? = some x:=by rw[← hx];exact List.getElem?_eq_getElem hc
  have w6:IntKind.i64.wrap ((i:Int)+1)=(i:Int)+1:=qk (by omega)
  have hd:=fstE_drop l i hn
  rw[List.drop_eq_getElem_cons hc,hx] at hd
  by_cases hq:x=0
  ·simp (maxSteps:=4000000) [-getElem?_pos,hc,hx2,hq,w6]
   exact⟨i+1,⟨by omega,take_all (p:=id) hc hn (hx.trans hq)⟩,by omega,by simp⟩
  ·have h2:fstE l=x:=by rw[hd];simp[fstE,orI,hq]
   simp (maxSteps:=4000000) [-getElem?_pos,hc,hx2,hq,h2,Tryz.results67]
 ·have hi':i=l.length:=by omega
  subst hi'
  have hd:=fstE_drop l _ hn
  simp only[List.drop_length] at hd
  have h2:fstE l=0:=hd
  simp (maxSteps:=4000000) [h2,Tryz.results67]
def fixA {α:Type} (K:List α) (p:α→Bool):Int:=if K.any p then ((K.findIdx p:Nat):Int) else -1
theorem fixA_nn {α:Type} (K:List α) (p:α→Bool):decide (0≤fixA K p)=K.any p:=by
 unfold fixA
 cases K.any p<;>simp
theorem fixA_at {α:Type} {K:List α} {p:α→Bool} {i:Nat} {k:α} (hk:K[i]? = some k) (hn:(K.take i).any p=false) (hp:p k=true):fixA K p=(i:Int):=by
 have hi:i<K.length:=(List.getElem?_eq_some_iff.1 hk).1
 have hki:K[i]=k:=(List.getElem?_eq_some_iff.1 hk).2
 unfold fixA
 rw[if_pos (List.any_eq_true.2 ⟨k,List.mem_of_getElem? hk,hp⟩)]
 congr 1
 rw[List.findIdx_eq hi]
 refine⟨by rw[hki];exact hp,fun j hj=>?_⟩
 cases hq:p K[j] with
 | false=>rfl
 | true =>
  have:(K.take i).any p=true:=List.any_eq_true.2 ⟨K[j],by rw[List.mem_take_iff_getElem];exact⟨j,by omega,rfl⟩,hq⟩
  rw[hn] at this;cases this
theorem fixA_none {α:Type} {K:List α} {p:α→Bool} (h:K.any p=false):fixA K p=-1:=by unfold fixA;rw[h];simp
theorem qaz {α:Type} {K:List α} {p:α→Bool} {i:Nat} {k:α} (hk:K[i]? = some k) (hn:(K.take i).any p=false):(K.take (i+1)).any p=p k:=by
 rw[List.take_add_one,hk,List.any_append,hn];simp
def rqF (x:Rq):AV:=.agg [.str x.1,.str x.2.1,.bool x.2.2]
theorem rqFx (x:Rq):rqF x=.agg [.str x.1,.str x.2.1,.bool x.2.2]:=rfl
def rpF (x:Rp):AV:=.agg [.str x.1.1,.str x.1.2,.str x.2.1,.str x.2.2]
theorem rpFx (x:Rp):rpF x=.agg [.str x.1.1,.str x.1.2,.str x.2.1,.str x.2.2]:=rfl
def rtF (x:Rt):AV:=.agg [.str x.1,.str x.2]
theorem rtFx (x:Rt):rtF x=.agg [.str x.1,.str x.2]:=rfl
theorem modAx (x:List UInt8×List UInt8):modA x=.agg [.str x.1,.str x.2]:=rfl
@[simp] theorem allCellsQ {l:List (Rq)}:allCells 3 (l.map rqF)↔True:=⟨fun _=>trivial,fun _ y hy=>by obtain⟨z,_,rfl⟩:=List.mem_map.1 hy;simp[rqF,AV.cells]⟩
@[simp] theorem lowQ {n:Nat} {x:Rq}:low n (rqF x)↔True:=by simp[rqF,low,lowL]
theorem qh7 (K:List (Rq)) (hK:K.length≤2^30) (g:FuncId) (hg:g<100000) (cap:List AV) (hcap:args cap=some cap) (p:Rq→Bool) (σ:List (List AV)) (h:∀k∈K,ev g (rqF k::cap) σ=some (.bool (p k),σ)) :
  ev 91 [.sl .sh (K.map rqF),.fn g cap] σ=some (.int .i64 (fixA K p),σ):=by
 refine qd rfl Tryz.func91 rfl (by simp[Tryz.ntmps91]) (by kernel_rfl) (by kernel_rfl) ?_
 simp (maxSteps:=4000000) []
 refine qn (I:=fun i:Nat=>⟨[(0,.sl .sh (K.map rqF)),(1,.fn g cap),(7,.int .i64 K.length),(8,.int .i64 i)],[],σ⟩) (Pr:=fun i=>i≤K.length∧(K.take i).any p=false) (μ:=fun i=>K.length-i) (a:=0) (by simp) (by simp) ?_
 rintro i ⟨hi,hn⟩
 have w1:IntKind.i64.wrap ((i:Int)+1)=(i:Int)+1:=qk (by omega)
 by_cases hc:i<K.length
 ·obtain⟨k,hk⟩:∃k,K[i]? = some k:=⟨_,List.getElem?_eq_getElem hc⟩
  have hv:=h k (List.mem_of_getElem? hk)
  have hin:=qaz hk hn
  have hfx:=fixA_at hk hn
  obtain⟨k1,k2,k3⟩:=k
  cases hp:p (k1,k2,k3) with
  | true =>
   have hfx:=hfx hp
   rw[hp] at hv
   simp only[rqFx] at hv
   simp (maxSteps:=4000000) [-getElem?_pos,hc,hk,hg,hcap,rqFx,hv,hfx,Tryz.results91]
  | false =>
   rw[hp] at hv hin
   simp only[rqFx] at hv
   simp (maxSteps:=4000000) [-getElem?_pos,-Prod.exists,-Prod.forall,hc,hk,hg,hcap,rqFx,hv,w1]
   exact⟨i+1,⟨by omega,by simpa using hin⟩,by omega,by simp⟩
 ·rw[List.take_of_length_le (by omega)] at hn
  have hfx:fixA K p=-1:=fixA_none hn
  simp (maxSteps:=4000000) [hc,hfx,Tryz.results91]
theorem qbg (K:List (Rq)) (hK:K.length≤2^30) (g:FuncId) (hg:g<100000) (cap:List AV) (hcap:args cap=some cap) (p:Rq→Bool) (σ:List (List AV)) (h:∀k∈K,ev g (rqF k::cap) σ=some (.bool (p k),σ)) :
  ev 70 [.sl .sh (K.map rqF),.fn g cap] σ=some (.bool (K.any p),σ):=by
 have h1:=qh7 K hK g hg cap hcap p σ h
 have h2:=fixA_nn K p
 refine qd rfl Tryz.func70 rfl (by simp[Tryz.ntmps70]) (by kernel_rfl) (by kernel_rfl) ?_
 simp (maxSteps:=4000000) [hcap,h1,h2,Tryz.results70]
@[simp] theorem lowM {n:Nat} {x:List UInt8×List UInt8}:low n (modA x)↔True:=by simp[modA,low,lowL]
theorem qh8 (K:List (List UInt8×List UInt8)) (hK:K.length≤2^30) (g:FuncId) (hg:g<100000) (cap:List AV) (hcap:args cap=some cap) (p:List UInt8×List UInt8→Bool) (σ:List (List AV)) (h:∀k∈K,ev g (modA k::cap) σ=some (.bool (p k),σ)) :
  ev 212 [.sl .sh (K.map modA),.fn g cap] σ=some (.int .i64 (fixA K p),σ):=by
 refine qd rfl Tryz.func212 rfl (by simp[Tryz.ntmps212]) (by kernel_rfl) (by kernel_rfl) ?_
 simp (maxSteps:=4000000) []
 refine qn (I:=fun i:Nat=>⟨[(0,.sl .sh (K.map modA)),(1,.fn g cap),(7,.int .i64 K.length),(8,.int .i64 i)],[],σ⟩) (Pr:=fun i=>i≤K.length∧(K.take i).any p=false) (μ:=fun i=>K.length-i) (a:=0) (by simp) (by simp) ?_
 rintro i ⟨hi,hn⟩
 have w1:IntKind.i64.wrap ((i:Int)+1)=(i:Int)+1:=qk (by omega)
 by_cases hc:i<K.length
 ·obtain⟨k,hk⟩:∃k,K[i]? = some k:=⟨_,List.getElem?_eq_getElem hc⟩
  have hv:=h k (List.mem_of_getElem? hk)
  have hin:=qaz hk hn
  have hfx:=fixA_at hk hn
  obtain⟨k1,k2⟩:=k
  cases hp:p (k1,k2) with
  | true =>
   have hfx:=hfx hp
   rw[hp] at hv
   simp only[modAx] at hv
   simp (maxSteps:=4000000) [-getElem?_pos,hc,hk,hg,hcap,modAx,hv,hfx,Tryz.results212]
  | false =>
   rw[hp] at hv hin
   simp only[modAx] at hv
   simp (maxSteps:=4000000) [-getElem?_pos,-Prod.exists,-Prod.forall,hc,hk,hg,hcap,modAx,hv,w1]
   exact⟨i+1,⟨by omega,by simpa using hin⟩,by omega,by simp⟩
 ·rw[List.take_of_length_le (by omega)] at hn
  have hfx:fixA K p=-1:=fixA_none hn
  simp (maxSteps:=4000000) [hc,hfx,Tryz.results212]
theorem qeq (K:List (List UInt8×List UInt8)) (hK:K.length≤2^30) (g:FuncId) (hg:g<100000) (cap:List AV) (hcap:args cap=some cap) (p:List UInt8×List UInt8→Bool) (σ:List (List AV)) (h:∀k∈K,ev g (modA k::cap) σ=some (.bool (p k),σ)) :
  ev 147 [.sl .sh (K.map modA),.fn g cap] σ=some (.bool (K.any p),σ):=by
 have h1:=qh8 K hK g hg cap hcap p σ h
 have h2:=fixA_nn K p
 refine qd rfl Tryz.func147 rfl (by simp[Tryz.ntmps147]) (by kernel_rfl) (by kernel_rfl) ?_
 simp (maxSteps:=4000000) [hcap,h1,h2,Tryz.results147]
@[simp] theorem allCellsP {l:List (Rp)}:allCells 4 (l.map rpF)↔True:=⟨fun _=>trivial,fun _ y hy=>by obtain⟨z,_,rfl⟩:=List.mem_map.1 hy;simp[rpF,AV.cells]⟩
@[simp] theorem lowP {n:Nat} {x:Rp}:low n (rpF x)↔True:=by simp[rpF,low,lowL]
theorem qh9 (K:List (Rp)) (hK:K.length≤2^30) (g:FuncId) (hg:g<100000) (cap:List AV) (hcap:args cap=some cap) (p:Rp→Bool) (σ:List (List AV)) (h:∀k∈K,ev g (rpF k::cap) σ=some (.bool (p k),σ)) :
  ev 85 [.sl .sh (K.map rpF),.fn g cap] σ=some (.int .i64 (fixA K p),σ):=by
 refine qd rfl Tryz.func85 rfl (by simp[Tryz.ntmps85]) (by kernel_rfl) (by kernel_rfl) ?_
 simp (maxSteps:=4000000) []
 refine qn (I:=fun i:Nat=>⟨[(0,.sl .sh (K.map rpF)),(1,.fn g cap),(7,.int .i64 K.length),(8,.int .i64 i)],[],σ⟩) (Pr:=fun i=>i≤K.length∧(K.take i).any p=false) (μ:=fun i=>K.length-i) (a:=0) (by simp) (by simp) ?_
 rintro i ⟨hi,hn⟩
 have w1:IntKind.i64.wrap ((i:Int)+1)=(i:Int)+1:=qk (by omega)
 by_cases hc:i<K.length
 ·obtain⟨k,hk⟩:∃k,K[i]? = some k:=⟨_,List.getElem?_eq_getElem hc⟩
  have hv:=h k (List.mem_of_getElem? hk)
  have hin:=qaz hk hn
  have hfx:=fixA_at hk hn
  obtain⟨⟨k1,k2⟩,k3,k4⟩:=k
  cases hp:p ((k1,k2),k3,k4) with
  | true =>
   have hfx:=hfx hp
   rw[hp] at hv
   simp only[rpFx] at hv
   simp (maxSteps:=4000000) [-getElem?_pos,hc,hk,hg,hcap,rpFx,hv,hfx,Tryz.results85]
  | false =>
   rw[hp] at hv hin
   simp only[rpFx] at hv
   simp (maxSteps:=4000000) [-getElem?_pos,-Prod.exists,-Prod.forall,hc,hk,hg,hcap,rpFx,hv,w1]
   exact⟨i+1,⟨by omega,by simpa using hin⟩,by omega,by simp⟩
 ·rw[List.take_of_length_le (by omega)] at hn
  have hfx:fixA K p=-1:=fixA_none hn
  simp (maxSteps:=4000000) [hc,hfx,Tryz.results85]
theorem qbh (K:List (Rp)) (hK:K.length≤2^30) (g:FuncId) (hg:g<100000) (cap:List AV) (hcap:args cap=some cap) (p:Rp→Bool) (σ:List (List AV)) (h:∀k∈K,ev g (rpF k::cap) σ=some (.bool (p k),σ)) :
  ev 149 [.sl .sh (K.map rpF),.fn g cap] σ=some (.bool (K.any p),σ):=by
 have h1:=qh9 K hK g hg cap hcap p σ h
 have h2:=fixA_nn K p
 refine qd rfl Tryz.func149 rfl (by simp[Tryz.ntmps149]) (by kernel_rfl) (by kernel_rfl) ?_
 simp (maxSteps:=4000000) [hcap,h1,h2,Tryz.results149]
@[simp] theorem allCellsT {l:List (Rt)}:allCells 2 (l.map rtF)↔True:=⟨fun _=>trivial,fun _ y hy=>by obtain⟨z,_,rfl⟩:=List.mem_map.1 hy;simp[rtF,AV.cells]⟩
@[simp] theorem lowT {n:Nat} {x:Rt}:low n (rtF x)↔True:=by simp[rtF,low,lowL]
theorem qia (K:List (Rt)) (hK:K.length≤2^30) (g:FuncId) (hg:g<100000) (cap:List AV) (hcap:args cap=some cap) (p:Rt→Bool) (σ:List (List AV)) (h:∀k∈K,ev g (rtF k::cap) σ=some (.bool (p k),σ)) :
  ev 213 [.sl .sh (K.map rtF),.fn g cap] σ=some (.int .i64 (fixA K p),σ):=by
 refine qd rfl Tryz.func213 rfl (by simp[Tryz.ntmps213]) (by kernel_rfl) (by kernel_rfl) ?_
 simp (maxSteps:=4000000) []
 refine qn (I:=fun i:Nat=>⟨[(0,.sl .sh (K.map rtF)),(1,.fn g cap),(7,.int .i64 K.length),(8,.int .i64 i)],[],σ⟩) (Pr:=fun i=>i≤K.length∧(K.take i).any p=false) (μ:=fun i=>K.length-i) (a:=0) (by simp) (by simp) ?_
 rintro i ⟨hi,hn⟩
 have w1:IntKind.i64.wrap ((i:Int)+1)=(i:Int)+1:=qk (by omega)
 by_cases hc:i<K.length
 ·obtain⟨k,hk⟩:∃k,K[i]? = some k:=⟨_,List.getElem?_eq_getElem hc⟩
  have hv:=h k (List.mem_of_getElem? hk)
  have hin:=qaz hk hn
  have hfx:=fixA_at hk hn
  obtain⟨k1,k2⟩:=k
  cases hp:p (k1,k2) with
  | true =>
   have hfx:=hfx hp
   rw[hp] at hv
   simp only[rtFx] at hv
   simp (maxSteps:=4000000) [-getElem?_pos,hc,hk,hg,hcap,rtFx,hv,hfx,Tryz.results213]
  | false =>
   rw[hp] at hv hin
   simp only[rtFx] at hv
   simp (maxSteps:=4000000) [-getElem?_pos,-Prod.exists,-Prod.forall,hc,hk,hg,hcap,rtFx,hv,w1]
   exact⟨i+1,⟨by omega,by simpa using hin⟩,by omega,by simp⟩
 ·rw[List.take_of_length_le (by omega)] at hn
  have hfx:fixA K p=-1:=fixA_none hn
  simp (maxSteps:=4000000) [hc,hfx,Tryz.results213]
theorem qer (K:List (Rt)) (hK:K.length≤2^30) (g:FuncId) (hg:g<100000) (cap:List AV) (hcap:args cap=some cap) (p:Rt→Bool) (σ:List (List AV)) (h:∀k∈K,ev g (rtF k::cap) σ=some (.bool (p k),σ)) :
  ev 150 [.sl .sh (K.map rtF),.fn g cap] σ=some (.bool (K.any p),σ):=by
 have h1:=qia K hK g hg cap hcap p σ h
 have h2:=fixA_nn K p
 refine qd rfl Tryz.func150 rfl (by simp[Tryz.ntmps150]) (by kernel_rfl) (by kernel_rfl) ?_
 simp (maxSteps:=4000000) [hcap,h1,h2,Tryz.results150]
theorem qjk (K:List (List UInt8×List UInt8)) (hK:K.length≤2^30) (m:List UInt8×List UInt8) (σ):ev 238 [.sl .sh (K.map modA),modA m] σ=some (.bool (K.any (m==·)),σ):=by
 obtain⟨m1,m2⟩:=m
 rw[modAx]
 have h1:∀σ,ev 261 [.sl .sh (K.map modA),.agg [.str m1,.str m2]] σ=some (.int .i64 (fixA K ((m1,m2)==·)),σ):=by
  intro σ
  refine qd rfl Tryz.func261 rfl (by simp[Tryz.ntmps261]) (by kernel_rfl) (by kernel_rfl) ?_
  simp (maxSteps:=4000000) []
  refine qn (I:=fun i:Nat=>⟨[(0,.sl .sh (K.map modA)),(3,.lp 3 0),(7,.int .i64 K.length),(8,.int .i64 i)],[(3,[.str m1,.str m2])],σ⟩) (Pr:=fun i=>i≤K.length∧(K.take i).any ((m1,m2)==·)=false) (μ:=fun i=>K.length-i) (a:=0) (by simp) (by simp) ?_
  rintro i ⟨hi,hn⟩
  have w1:IntKind.i64.wrap ((i:Int)+1)=(i:Int)+1:=qk (by omega)
  by_cases hc:i<K.length
  ·obtain⟨k,hk⟩:∃k,K[i]? = some k:=⟨_,List.getElem?_eq_getElem hc⟩
   have hin:=qaz hk hn
   have hfx:=fixA_at hk hn
   obtain⟨k1,k2⟩:=k
   have hkk:(((m1,m2):List UInt8×List UInt8)==(k1,k2))=(m1==k1&&m2==k2):=rfl
   simp only[hkk] at hin hfx
   cases hp:(m1==k1&&m2==k2) with
   | true =>
    have hfx:=hfx hp
    simp (maxSteps:=4000000) [-getElem?_pos,-qb,-Bool.and_eq_true,-beq_iff_eq,hc,hk]
    refine qg [] _ (k:=?_)
    repeat (first|refine qe _ (hs:=by simp (maxSteps:=4000000) [-getElem?_pos,-Bool.and_eq_true,-beq_iff_eq,hc,hk,hp,modAx];exact rfl) (k:=?_)|refine qf _ (k:=?_))
    refine qc ?_
    simp (maxSteps:=4000000) [hfx,Tryz.results261]
   | false =>
    rw[hp] at hin
    simp (maxSteps:=4000000) [-getElem?_pos,-qb,-Bool.and_eq_false_imp,-beq_iff_eq,hc,hk]
    refine qg [] _ (k:=?_)
    repeat (first|refine qe _ (hs:=by simp (maxSteps:=4000000) [-getElem?_pos,-Bool.and_eq_false_imp,-beq_iff_eq,hc,hk,hp,modAx];exact rfl) (k:=?_)|refine qf _ (k:=?_))
    refine qc ?_
    simp (maxSteps:=4000000) [-Prod.exists,-Prod.forall,w1]
    exact⟨i+1,⟨by omega,by simpa using hin⟩,by omega,by simp⟩
  ·rw[List.take_of_length_le (by omega)] at hn
   have hfx:fixA K ((m1,m2)==·)=-1:=fixA_none hn
   simp (maxSteps:=4000000) [hc,hfx,Tryz.results261]
 have h2:=fixA_nn K ((m1,m2)==·)
 refine qd rfl Tryz.func238 rfl (by simp[Tryz.ntmps238]) (by kernel_rfl) (by kernel_rfl) ?_
 simp (maxSteps:=4000000) [h1,h2,Tryz.results238]
theorem qem (K:List (List UInt8×List UInt8)) (hK:K.length≤2^30) (m:List UInt8×List UInt8) (σ):ev 239 [.sl .sh (K.map rtF),rtF m] σ=some (.bool (K.any (m==·)),σ):=by
 obtain⟨m1,m2⟩:=m
 rw[rtFx]
 have h1:∀σ,ev 262 [.sl .sh (K.map rtF),.agg [.str m1,.str m2]] σ=some (.int .i64 (fixA K ((m1,m2)==·)),σ):=by
  intro σ
  refine qd rfl Tryz.func262 rfl (by simp[Tryz.ntmps262]) (by kernel_rfl) (by kernel_rfl) ?_
  simp (maxSteps:=4000000) []
  refine qn (I:=fun i:Nat=>⟨[(0,.sl .sh (K.map rtF)),(3,.lp 3 0),(7,.int .i64 K.length),(8,.int .i64 i)],[(3,[.str m1,.str m2])],σ⟩) (Pr:=fun i=>i≤K.length∧(K.take i).any ((m1,m2)==·)=false) (μ:=fun i=>K.length-i) (a:=0) (by simp) (by simp) ?_
  rintro i ⟨hi,hn⟩
  have w1:IntKind.i64.wrap ((i:Int)+1)=(i:Int)+1:=qk (by omega)
  by_cases hc:i<K.length
  ·obtain⟨k,hk⟩:∃k,K[i]? = some k:=⟨_,List.getElem?_eq_getElem hc⟩
   have hin:=qaz hk hn
   have hfx:=fixA_at hk hn
   obtain⟨k1,k2⟩:=k
   have hkk:(((m1,m2):List UInt8×List UInt8)==(k1,k2))=(m1==k1&&m2==k2):=rfl
   simp only[hkk] at hin hfx
   cases hp:(m1==k1&&m2==k2) with
   | true =>
    have hfx:=hfx hp
    simp (maxSteps:=4000000) [-getElem?_pos,-qb,-Bool.and_eq_true,-beq_iff_eq,hc,hk]
    refine qg [] _ (k:=?_)
    repeat (first|refine qe _ (hs:=by simp (maxSteps:=4000000) [-getElem?_pos,-Bool.and_eq_true,-beq_iff_eq,hc,hk,hp,rtFx];exact rfl) (k:=?_)|refine qf _ (k:=?_))
    refine qc ?_
    simp (maxSteps:=4000000) [hfx,Tryz.results262]
   | false =>
    rw[hp] at hin
    simp (maxSteps:=4000000) [-getElem?_pos,-qb,-Bool.and_eq_false_imp,-beq_iff_eq,hc,hk]
    refine qg [] _ (k:=?_)
    repeat (first|refine qe _ (hs:=by simp (maxSteps:=4000000) [-getElem?_pos,-Bool.and_eq_false_imp,-beq_iff_eq,hc,hk,hp,rtFx];exact rfl) (k:=?_)|refine qf _ (k:=?_))
    refine qc ?_
    simp (maxSteps:=4000000) [-Prod.exists,-Prod.forall,w1]
    exact⟨i+1,⟨by omega,by simpa using hin⟩,by omega,by simp⟩
  ·rw[List.take_of_length_le (by omega)] at hn
   have hfx:fixA K ((m1,m2)==·)=-1:=fixA_none hn
   simp (maxSteps:=4000000) [hc,hfx,Tryz.results262]
 have h2:=fixA_nn K ((m1,m2)==·)
 refine qd rfl Tryz.func239 rfl (by simp[Tryz.ntmps239]) (by kernel_rfl) (by kernel_rfl) ?_
 simp (maxSteps:=4000000) [h1,h2,Tryz.results239]
def isQ (p:List UInt8) (x:Rq):Bool:=x.1==p
theorem qfz (p:List UInt8) (σ:List (List AV)):ev 71 [.str p] σ=some (.fn 144 [.gp σ.length 0 (some (9,1))],σ++[[.str p]]):=by
 refine qd rfl Tryz.func71 rfl (by simp[Tryz.ntmps71]) (by kernel_rfl) (by kernel_rfl) ?_
 simp (maxSteps:=4000000) [Tryz.results71]
theorem qed (p:List UInt8) (b:Nat) (sh:Option (TypeId×Nat)) (x:Rq) (σ:List (List AV)) (hb:σ[b]? = some [.str p]):ev 144 [rqF x,.gp b 0 sh] σ=some (.bool (isQ p x),σ):=by
 obtain⟨x1,x2,x3⟩:=x
 unfold isQ
 simp only[rqFx]
 refine qd rfl Tryz.func144 rfl (by simp[Tryz.ntmps144]) (by kernel_rfl) (by kernel_rfl) ?_
 simp (maxSteps:=4000000) [-getElem?_pos,hb,Tryz.results144]
def isM (m x:List UInt8×List UInt8):Bool:=x.1==m.1&&x.2==m.2
theorem qph (m:List UInt8×List UInt8) (σ:List (List AV)):ev 74 [modA m] σ=some (.fn 148 [.gp σ.length 0 (some (55,2))],σ++[[.str m.1,.str m.2]]):=by
 rw[modAx]
 refine qd rfl Tryz.func74 rfl (by simp[Tryz.ntmps74]) (by kernel_rfl) (by kernel_rfl) ?_
 simp (maxSteps:=4000000) [Tryz.results74]
theorem qpi (m:Rt) (σ:List (List AV)):ev 80 [rtF m] σ=some (.fn 151 [.gp σ.length 0 (some (53,2))],σ++[[.str m.1,.str m.2]]):=by
 rw[rtFx]
 refine qd rfl Tryz.func80 rfl (by simp[Tryz.ntmps80]) (by kernel_rfl) (by kernel_rfl) ?_
 simp (maxSteps:=4000000) [Tryz.results80]
theorem qsv (m:List UInt8×List UInt8) (σ:List (List AV)):ev 86 [modA m] σ=some (.fn 156 [.gp σ.length 0 (some (55,2))],σ++[[.str m.1,.str m.2]]):=by
 rw[modAx]
 refine qd rfl Tryz.func86 rfl (by simp[Tryz.ntmps86]) (by kernel_rfl) (by kernel_rfl) ?_
 simp (maxSteps:=4000000) [Tryz.results86]
theorem qee (x:Rp) (σ:List (List AV)):ev 77 [rpF x] σ=some (.fn 156 [.gp σ.length 0 (some (55,2))],σ++[[.str x.1.1,.str x.1.2]]):=by
 have h:=qsv x.1
 obtain⟨⟨x1,x2⟩,x3,x4⟩:=x
 simp only[modAx] at h
 rw[rpFx]
 refine qd rfl Tryz.func77 rfl (by simp[Tryz.ntmps77]) (by kernel_rfl) (by kernel_rfl) ?_
 simp (maxSteps:=4000000) [h,Tryz.results77]
theorem qmq (m:List UInt8×List UInt8) (b:Nat) (sh:Option (TypeId×Nat)) (x:List UInt8×List UInt8) (σ:List (List AV)) (hb:σ[b]? = some [.str m.1,.str m.2]):ev 148 [modA x,.gp b 0 sh] σ=some (.bool (isM m x),σ):=by
 obtain⟨x1,x2⟩:=x
 obtain⟨m1,m2⟩:=m
 unfold isM
 simp only[modAx] at hb ⊢
 refine qd rfl Tryz.func148 rfl (by simp[Tryz.ntmps148]) (by kernel_rfl) (by kernel_rfl) ?_
 by_cases hc:x1=m1
 ·have hc':(x1==m1)=true:=by simpa using hc
  by_cases hq:x2=m2
  ·have hq':(x2==m2)=true:=by simpa using hq
   simp (maxSteps:=4000000) [-getElem?_pos,hb,hc',hq',Tryz.results148]
  ·have hq':(x2==m2)=false:=by simpa using hq
   simp (maxSteps:=4000000) [-getElem?_pos,hb,hc',hq',Tryz.results148]
 ·have hc':(x1==m1)=false:=by simpa using hc
  simp (maxSteps:=4000000) [-getElem?_pos,hb,hc',Tryz.results148]
theorem qmr (m:List UInt8×List UInt8) (b:Nat) (sh:Option (TypeId×Nat)) (x:Rt) (σ:List (List AV)) (hb:σ[b]? = some [.str m.1,.str m.2]):ev 151 [rtF x,.gp b 0 sh] σ=some (.bool (isM m x),σ):=by
 obtain⟨x1,x2⟩:=x
 obtain⟨m1,m2⟩:=m
 unfold isM
 simp only[rtFx] at hb ⊢
 refine qd rfl Tryz.func151 rfl (by simp[Tryz.ntmps151]) (by kernel_rfl) (by kernel_rfl) ?_
 by_cases hc:x1=m1
 ·have hc':(x1==m1)=true:=by simpa using hc
  by_cases hq:x2=m2
  ·have hq':(x2==m2)=true:=by simpa using hq
   simp (maxSteps:=4000000) [-getElem?_pos,hb,hc',hq',Tryz.results151]
  ·have hq':(x2==m2)=false:=by simpa using hq
   simp (maxSteps:=4000000) [-getElem?_pos,hb,hc',hq',Tryz.results151]
 ·have hc':(x1==m1)=false:=by simpa using hc
  simp (maxSteps:=4000000) [-getElem?_pos,hb,hc',Tryz.results151]
theorem qf0 (m:List UInt8×List UInt8) (b:Nat) (sh:Option (TypeId×Nat)) (x:Rp) (σ:List (List AV)) (hb:σ[b]? = some [.str m.1,.str m.2]):ev 156 [rpF x,.gp b 0 sh] σ=some (.bool (isM m x.1),σ):=by
 obtain⟨⟨x1,x2⟩,x3,x4⟩:=x
 obtain⟨m1,m2⟩:=m
 unfold isM
 simp only[rpFx] at hb ⊢
 refine qd rfl Tryz.func156 rfl (by simp[Tryz.ntmps156]) (by kernel_rfl) (by kernel_rfl) ?_
 by_cases hc:x1=m1
 ·have hc':(x1==m1)=true:=by simpa using hc
  by_cases hq:x2=m2
  ·have hq':(x2==m2)=true:=by simpa using hq
   simp (maxSteps:=4000000) [-getElem?_pos,hb,hc',hq',Tryz.results156]
  ·have hq':(x2==m2)=false:=by simpa using hq
   simp (maxSteps:=4000000) [-getElem?_pos,hb,hc',hq',Tryz.results156]
 ·have hc':(x1==m1)=false:=by simpa using hc
  simp (maxSteps:=4000000) [-getElem?_pos,hb,hc',Tryz.results156]
end Go.Proofs.Tryz.Ai
end
section
namespace Go.Proofs.Tryz.Ai
open Go Go.AI Go.Proofs
set_option maxHeartbeats 2000000
set_option linter.unusedVariables false
theorem qv4 (n:Nat) (hn:n<10^18) (σ):ev 133 [.int .i64 n] σ=some (.str (Lib.decDigits n),σ):=by
 rw[qvq]
 have:Lib.itoa (n:Int)=Lib.decDigits n:=by unfold Lib.itoa;rw[if_neg (by omega)];simp
 simp only[itoaT]
 rw[ql (by omega),this]
end Go.Proofs.Tryz.Ai
end
section
namespace Go.Proofs.Tryz.Ai
open Go Go.AI Go.Proofs
set_option maxHeartbeats 2000000
set_option linter.unusedVariables false
theorem qib (s:List UInt8) (hl:s.length≤2^30) (σ):ev 145 [.str s] σ=some (.bool (readB s).isSome,σ):=by
 have h1:=qh6 s hl
 refine qd rfl Tryz.func145 rfl (by simp[Tryz.ntmps145]) (by kernel_rfl) (by kernel_rfl) ?_
 cases e1:readB s with
 | none=>rw[e1] at h1;simp (maxSteps:=4000000) [h1,verA,Tryz.results145]
 | some x=>rw[e1] at h1;simp (maxSteps:=4000000) [h1,verA,Tryz.results145]
def partsA:Option Ver→AV
 | some v=>.tup [.int .i64 v.ma,.int .i64 v.mi,.int .i64 v.pa,.str v.pre,.bool true]
 | none=>.tup [.int .i64 0,.int .i64 0,.int .i64 0,.str [],.bool false]
end Go.Proofs.Tryz.Ai
end
section
namespace Go.Proofs.Tryz.Ai
open Go Go.AI Go.Proofs
set_option maxHeartbeats 2000000
set_option linter.unusedVariables false
theorem qv5 (c:UInt8) (l:List UInt8):lixI c l=match lix c l with
 | some n=>(n:Int)
 | none=>-1:=rfl
theorem qd3 (p:List UInt8) (hp:p.length≤2^30) (σ):ev 141 [.str p] σ=some (.tup [.str (splitMB p).1,.int .i64 (splitMB p).2],σ):=by
 have h1:=qd1 p (by omega) 47
 refine qd rfl Tryz.func141 rfl (by simp[Tryz.ntmps141]) (by kernel_rfl) (by kernel_rfl) ?_
 cases hx:lix 47 p with
 | none =>
  have e1:lixI 47 p=-1:=by simp[lixI,hx]
  have e2:splitMB p=(p,0):=by simp[splitMB,hx]
  simp (maxSteps:=4000000) [h1,e1,e2,Tryz.results141]
 | some i =>
  have e1:lixI 47 p=i:=by simp[lixI,hx]
  have hi:=(qex hx).1
  obtain⟨q,hq⟩:∃q,p.drop (i+1)=q:=⟨_,rfl⟩
  have hql:q.length≤2^30:=by rw[← hq];simp;omega
  have w1:IntKind.i64.wrap ((i:Int)+1)=(i:Int)+1:=qk (by omega)
  have w2:i+1≤p.length:=by omega
  have w3:i≤p.length:=by omega
  have h2:=qel q [118] (by omega) (by simp)
  have e2:splitMB p=match majB q with
    | none=>(p,0)
    | some n=>(p.take i,n):=by unfold splitMB;rw[hx];simp only[hq];cases majB q<;>rfl
  cases q with
  | nil =>
   have h3:=qb9 [] (by simp)
   have h4:numB []=none:=by simp[numB,numOk,allB]
   have h6:majB []=none:=rfl
   rw[h4] at h3
   rw[h6] at e2
   simp only[List.isPrefixOf,Bool.false_eq_true,if_false] at h2
   simp only at e2
   simp (maxSteps:=4000000) [h1,e1,e2,hq,w1,w2,h2,h3,Tryz.results141]
  | cons c r =>
   simp only[List.length_cons] at hql
   by_cases hc:c=118
   ·subst hc
    have h5:List.isPrefixOf [(118:UInt8)] (118::r)=true:=by simp[List.isPrefixOf]
    rw[h5] at h2
    simp only[if_true,List.length_cons,List.length_nil,Nat.zero_add,List.drop_succ_cons,List.drop_zero] at h2
    have h3:=qb9 r (by omega)
    have h7:majB (118::r)=match numB r with
      | none=>none
      | some n=>if n<2 then none else some n:=rfl
    cases hn:numB r with
    | none =>
     rw[hn] at h3 h7
     rw[h7] at e2
     simp only at e2
     simp (maxSteps:=4000000) [h1,e1,e2,hq,w1,w2,h2,h3,Tryz.results141]
    | some n =>
     rw[hn] at h3 h7
     simp only at h7
     by_cases h6:n<2
     ·rw[if_pos h6] at h7
      rw[h7] at e2
      simp (maxSteps:=4000000) [h1,e1,e2,hq,w1,w2,h2,h3,h6,Tryz.results141]
     ·rw[if_neg h6] at h7
      rw[h7] at e2
      simp (maxSteps:=4000000) [h1,e1,e2,hq,w1,w2,w3,h2,h3,h6,Tryz.results141]
   ·have h5:List.isPrefixOf [(118:UInt8)] (c::r)=false:=by simp[List.isPrefixOf];exact fun e=>hc e.symm
    have h7:majB (c::r)=none:=by simp[majB,hc]
    rw[h7] at e2
    rw[h5] at h2
    simp only[Bool.false_eq_true,if_false] at h2
    have h3:=qb9 (c::r) (by simp;omega)
    simp (maxSteps:=4000000) [h1,e1,e2,hq,w1,w2,h2,h3,Tryz.results141]
theorem elements_eq (p o:List UInt8) (hp:p.length≤2^30) (b:Nat) (sh) (σ:List (List AV)) (hb:σ[b]? = some [.str o]):ev 136 [.str p,.fn 207 [.gp b 0 sh]] σ=some (.bool (elemsB o p),σ):=by
 have hS:=qcz p hp 47
 obtain⟨L,hL⟩:∃L,splitB 47 p=L:=⟨_,rfl⟩
 have hm:∀x∈L,x.length≤2^30:=fun x hx=>Nat.le_trans (qbd (hL▸hx)) hp
 have hn:L.length≤2^31:=by rw[← hL];have:=qa9 47 p;omega
 have hAll:elemsB o p=L.all (elemB o):=by unfold elemsB;rw[hL]
 rw[hL] at hS
 refine qd rfl Tryz.func136 rfl (by simp[Tryz.ntmps136]) (by kernel_rfl) (by kernel_rfl) ?_
 simp (maxSteps:=4000000) [hS]
 refine qn (I:=fun i:Nat=>⟨[(1,.fn 207 [.gp b 0 sh]),(8,.sl (.ex 9 1) (L.map .str)),(9,.int .i64 L.length),(10,.int .i64 i)],[],σ⟩) (Pr:=fun i=>i≤L.length∧∀x∈L.take i,elemB o x=true) (μ:=fun i=>L.length-i) (a:=0) (by simp) (by simp) ?_
 rintro i ⟨hi,ha⟩
 by_cases hc:i<L.length
 ·obtain⟨x,hx⟩:∃x,L[i]=x:=⟨_,rfl⟩
  have hx2:L[i]? = some x:=by rw[← hx];exact List.getElem?_eq_getElem hc
  have hxl:=hm x (hx▸List.getElem_mem hc)
  have h1:=qpb x o (by omega) b sh σ hb
  have w6:IntKind.i64.wrap ((i:Int)+1)=(i:Int)+1:=qk (by omega)
  have bad:elemB o x=false→elemsB o p=false:=fun e=>by rw[hAll,Bool.eq_false_iff];intro h;have:=List.all_eq_true.1 h _ (hx▸List.getElem_mem hc);rw[e] at this;cases this
  by_cases hA:allB (wordB o) x=true
  ·obtain⟨c,r,hcr⟩:∃c r,x=c::r:=by cases x with
    | nil=>simp[allB] at hA
    | cons c r=>exact⟨c,r,rfl⟩
   have g0:x[0]? = some c:=by rw[hcr];rfl
   have hlen:x.length=r.length+1:=by rw[hcr];simp
   obtain⟨d,hd⟩:∃d,x[r.length]? = some d:=⟨_,List.getElem?_eq_getElem (by omega)⟩
   have hlast:x.getLast? = some d:=by rw[List.getLast?_eq_getElem?,hlen];simpa using hd
   have hhead:x.head? = some c:=by rw[hcr];rfl
   have w7:IntKind.i64.wrap ((x.length:Int)-1)=(r.length:Int):=by rw[qk (by omega)];omega
   by_cases e1:c=46
   ·have hf:=bad (by simp[elemB,hhead,e1])
    subst e1
    simp (maxSteps:=4000000) [-getElem?_pos,hc,hx2,h1,hA,g0,hf,Tryz.results136]
   ·by_cases e2:d=46
    ·have hf:=bad (by simp[elemB,hlast,e2])
     subst e2
     simp (maxSteps:=4000000) [-getElem?_pos,hc,hx2,h1,hA,g0,e1,w7,hd,hf,Tryz.results136]
    ·have hq:elemB o x=true:=by simp[elemB,hA,hhead,hlast,e1,e2]
     simp (maxSteps:=4000000) [-getElem?_pos,hc,hx2,h1,hA,g0,e1,w7,hd,e2,w6]
     exact⟨i+1,⟨by omega,take_all hc ha (by rw[hx];exact hq)⟩,by omega,by simp⟩
  ·have hf:=bad (by simp[elemB,hA])
   simp (maxSteps:=4000000) [-getElem?_pos,hc,hx2,h1,hA,hf,Tryz.results136]
 ·have hi':i=L.length:=by omega
  subst hi'
  rw[List.take_length] at ha
  have ht:elemsB o p=true:=by rw[hAll];exact List.all_eq_true.2 ha
  simp (maxSteps:=4000000) [ht,Tryz.results136]
theorem qyp (c:UInt8) (σ):ev 134 [.int .u8 c.toNat] σ=some (.bool (oddB c),σ):=by
 have h:=qhz c
 refine qd rfl Tryz.func134 rfl (by simp[Tryz.ntmps134]) (by kernel_rfl) (by kernel_rfl) ?_
 by_cases d:isU c=true
 ·simp (maxSteps:=4000000) [h,d,oddB,Tryz.results134]
 ·by_cases e:c=95
  ·subst e
   have h':∀σ,ev 135 [.int .u8 95] σ=some (.bool false,σ):=fun σ=>qhz 95 σ
   simp (maxSteps:=4000000) [h',oddB,Tryz.results134]
  ·simp (maxSteps:=4000000) [h,d,e,oddB,Tryz.results134]
theorem firstOdd_def (l:List UInt8):∃b,l.any oddB=b:=⟨_,rfl⟩
theorem qb1 (p:List UInt8) (hp:p.length≤2^30) (σ):ev 68 [.str p] σ=some (.int .i64 (pathB p),σ):=by
 have hw:ev 137 [.str [45,46,95,126]] σ=some (.fn 207 [.gp σ.length 0 (some (9,1))],σ++[[.str [45,46,95,126]]]):=qpa _ σ
 have he:=elements_eq p [45,46,95,126] hp σ.length (some (9,1)) (σ++[[.str [45,46,95,126]]]) (by simp)
 have hcl:=qok 47 p
 have hlm:=qoo p
 have hlx:=qv5 47 p
 have hC:=qo9 p (by omega) 47
 have hL:=qd1 p (by omega) 47
 have hM:=qd3 p hp
 have hlb:lastB p=match lix 47 p with
   | some n=>p.drop (n+1)
   | none=>p:=rfl
 refine qd rfl Tryz.func68 rfl (by simp[Tryz.ntmps68]) (by kernel_rfl) (by kernel_rfl) ?_
 by_cases h:100<p.length
 ·have e1:pathB p=13:=by simp[pathB,h]
  simp (maxSteps:=4000000) [h,e1,Tryz.results68]
 ·obtain⟨⟨f,g,more⟩,hk⟩:∃x,cutB 47 p=x:=⟨_,rfl⟩
  obtain⟨⟨sm,n⟩,hk2⟩:∃x,splitMB p=x:=⟨_,rfl⟩
  rw[hk] at hC hcl
  rw[hk2] at hM
  simp only at hC hcl hM
  have hf1:=qji f (by omega) 46
  obtain⟨od,hod⟩:=firstOdd_def f
  have hf2:=fun σ=>qvz f (by omega) 134 [] oddB (by decide) σ (fun c=>qyp c σ)
  rw[hod] at hf2
  by_cases e:elemsB [45,46,95,126] p=true
  ·rw[e] at he
   by_cases e2:46∈f
   ·obtain⟨c,r,hcr⟩:∃c r,f=c::r:=by cases f with
     | nil=>simp at e2
     | cons c r=>exact⟨c,r,rfl⟩
    have g0:f[0]? = some c:=by rw[hcr];rfl
    have hh:f.head? = some c:=by rw[hcr];rfl
    cases od with
    | true =>
     have e1:pathB p=9:=by simp only[pathB,if_neg h,hk];rw[if_pos (.inr (.inr (.inl hod)))]
     simp (maxSteps:=4000000) [h,hw,he,hC,hf1,e2,hf2,e1,Tryz.results68]
    | false =>
     by_cases e3:c=45
     ·have e1:pathB p=9:=by simp only[pathB,if_neg h,hk];rw[if_pos (.inr (.inr (.inr (by rw[hh,e3]))))]
      subst e3
      simp (maxSteps:=4000000) [-getElem?_pos,h,hw,he,hC,hf1,e2,hf2,g0,e1,Tryz.results68]
     ·have hfin:pathB p=if more=true∧(lastB p).head? = some 118∧allB isD (lastB p).tail=true∧n=0 then 10 else 0:=by
       simp only[pathB,if_neg h,hk,hk2];rw[if_neg (by simp[e,e2,hod,hh,e3])]
      obtain⟨q,hq⟩:∃q,lastB p=q:=⟨_,rfl⟩
      rw[hq] at hfin hlm hlb
      have hqe:elemB [45,46,95,126] q=true:=List.all_eq_true.1 e q hlm
      obtain⟨d,t,hdt⟩:∃d t,q=d::t:=by cases q with
       | nil=>simp[elemB,allB] at hqe
       | cons c r=>exact⟨c,r,rfl⟩
      have hql:q.length≤2^30:=by have:=qbd hlm;omega
      have hx1:∃m:Nat,IntKind.i64.wrap (lixI 47 p+1)=(m:Int)∧m≤p.length∧List.drop m p=q:=by
       cases hx:lix 47 p with
       | none =>
        rw[hx] at hlx hlb
        simp only at hlx hlb
        exact⟨0,by rw[hlx];decide,by omega,by rw[hlb];rfl⟩
       | some i =>
        rw[hx] at hlx hlb
        simp only at hlx hlb
        have:=(qex hx).1
        exact⟨i+1,by rw[hlx,qk (by omega)];omega,by omega,by rw[hlb]⟩
      obtain⟨m,hm1,hm2,hm3⟩:=hx1
      have g1:q[0]? = some d:=by rw[hdt];rfl
      have g2:q.tail=t:=by rw[hdt];rfl
      have g3:1≤q.length:=by rw[hdt];simp
      have hD:=qft t (by rw[hdt] at hql;simp at hql;omega)
      have h7:q.head? = some d:=by rw[hdt];rfl
      have h8:q.tail=t:=by rw[hdt];rfl
      rw[h7,h8] at hfin
      cases more with
      | false =>
       have e1:pathB p=0:=by rw[hfin,if_neg (by simp)]
       simp (maxSteps:=4000000) [-getElem?_pos,h,hw,he,hC,hf1,e2,hf2,g0,e3,hL,hm1,hm2,hm3,hM,e1,Tryz.results68]
      | true =>
       by_cases e4:d=118
       ·by_cases e5:allB isD t=true
        ·by_cases e6:n=0
         ·have e1:pathB p=10:=by rw[hfin,if_pos (by simp[e4,e5,e6])]
          subst e4 e6
          simp (maxSteps:=4000000) [-getElem?_pos,h,hw,he,hC,hf1,e2,hf2,g0,e3,hL,hm1,hm2,hm3,hM,g1,g2,g3,hD,e5,e1,Tryz.results68]
         ·have e1:pathB p=0:=by rw[hfin,if_neg (by simp[e6])]
          subst e4
          simp (maxSteps:=4000000) [-getElem?_pos,h,hw,he,hC,hf1,e2,hf2,g0,e3,hL,hm1,hm2,hm3,hM,g1,g2,g3,hD,e5,e6,e1,Tryz.results68]
        ·have e1:pathB p=0:=by rw[hfin,if_neg (by simp[e5])]
         subst e4
         simp (maxSteps:=4000000) [-getElem?_pos,h,hw,he,hC,hf1,e2,hf2,g0,e3,hL,hm1,hm2,hm3,hM,g1,g2,g3,hD,e5,e1,Tryz.results68]
       ·have e1:pathB p=0:=by rw[hfin,if_neg (by simp[e4])]
        simp (maxSteps:=4000000) [-getElem?_pos,h,hw,he,hC,hf1,e2,hf2,g0,e3,hL,hm1,hm2,hm3,hM,g1,e4,e1,Tryz.results68]
   ·have e1:pathB p=9:=by simp only[pathB,if_neg h,hk];rw[if_pos (.inr (.inl e2))]
    simp (maxSteps:=4000000) [h,hw,he,hC,hf1,e2,e1,Tryz.results68]
  ·have e:elemsB [45,46,95,126] p=false:=by simpa using e
   have e1:pathB p=9:=by simp only[pathB,if_neg h,hk];rw[if_pos (.inl e)]
   simp (maxSteps:=4000000) [h,hw,he,hC,e,e1,Tryz.results68]
theorem qms (v p:List UInt8) (hv:v.length≤2^30) (hp:p.length≤2^30) (σ):ev 146 [.str v,.str p] σ=some (.bool (matchesB v p),σ):=by
 have h1:=qh6 v hv
 have h2:=qd3 p hp
 obtain⟨⟨sm,n⟩,hk2⟩:∃x,splitMB p=x:=⟨_,rfl⟩
 rw[hk2] at h2
 refine qd rfl Tryz.func146 rfl (by simp[Tryz.ntmps146]) (by kernel_rfl) (by kernel_rfl) ?_
 cases e1:readB v with
 | none =>
  rw[e1] at h1
  have h4:matchesB v p=false:=by simp[matchesB,e1]
  simp (maxSteps:=4000000) [h1,h2,h4,verA,Tryz.results146]
 | some x =>
  rw[e1] at h1
  have h4:matchesB v p=(decide (x.ma=n)||(decide (n=0)&&decide (x.ma=1))):=by simp[matchesB,e1,hk2]
  by_cases d1:x.ma=n
  ·simp (maxSteps:=4000000) [h1,h2,h4,d1,verA,Tryz.results146]
  ·by_cases d2:n=0
   ·subst d2
    simp (maxSteps:=4000000) [h1,h2,h4,d1,verA,Tryz.results146]
   ·simp (maxSteps:=4000000) [h1,h2,h4,d1,d2,verA,Tryz.results146]
end Go.Proofs.Tryz.Ai
end
section
namespace Go.Proofs.Tryz.Ai
open Go Go.AI Go.Proofs
set_option maxHeartbeats 4000000
set_option linter.unusedVariables false
end Go.Proofs.Tryz.Ai
end
section
namespace Go.Proofs.Tryz.Ai
open Go Go.AI Go.Proofs
set_option maxHeartbeats 4000000
set_option linter.unusedVariables false
def sufB:List UInt8→Nat
 | []=>0
 | c::r=>if c≠118 then 0 else match numB r with
  | none=>0
  | some n=>n
end Go.Proofs.Tryz.Ai
end
section
namespace Go.Proofs.Tryz.Ai
open Go Go.AI Go.Proofs
set_option maxHeartbeats 4000000
set_option linter.unusedVariables false
def hostB (f:List UInt8):Bool:=!(f.any oddB)&&(decide (46∈f)&&!(decide (f.head? = some 45)))
end Go.Proofs.Tryz.Ai
end
section
namespace Go.Proofs.Tryz.Ai
open Go Go.AI Go.Proofs
set_option maxHeartbeats 4000000
set_option linter.unusedVariables false
end Go.Proofs.Tryz.Ai
end
section
namespace Go.Proofs.Tryz.Ai
open Go Go.AI Go.Proofs
set_option maxHeartbeats 4000000
set_option linter.unusedVariables false
theorem qda (p v:List UInt8) (hp:p.length≤2^30) (hv:v.length≤2^30) (σ):ev 72 [.agg [.str p,.str v]] σ=some (.int .i64 (checkB p v),σ):=by
 have h1:=qb1 p hp
 have h2:=qib v hv
 have h3:=qms v p hv hp
 refine qd rfl Tryz.func72 rfl (by simp[Tryz.ntmps72]) (by kernel_rfl) (by kernel_rfl) ?_
 by_cases c1:pathB p=0
 ·rw[c1] at h1
  cases e2:readB v with
  | none =>
   rw[e2] at h2
   have hf:checkB p v=8:=by simp[checkB,c1,e2]
   simp (maxSteps:=4000000) [h1,h2,hf,Tryz.results72]
  | some x =>
   rw[e2] at h2
   cases e3:matchesB v p with
   | false =>
    rw[e3] at h3
    have hf:checkB p v=10:=by simp[checkB,c1,e2,e3]
    simp (maxSteps:=4000000) [h1,h2,h3,hf,Tryz.results72]
   | true =>
    rw[e3] at h3
    have hf:checkB p v=0:=by simp[checkB,c1,e2,e3]
    simp (maxSteps:=4000000) [h1,h2,h3,hf,Tryz.results72]
 ·have hf:checkB p v=pathB p:=by simp[checkB,c1]
  simp (maxSteps:=4000000) [h1,c1,hf,Tryz.results72]
end Go.Proofs.Tryz.Ai
end
section
namespace Go.Proofs.Tryz.Ai
open Go Go.AI Go.Proofs
set_option maxHeartbeats 4000000
set_option maxRecDepth 4000
set_option linter.unusedVariables false
def minorB (s:List UInt8):Option Nat:=if [49,46].isPrefixOf s then (numB (s.drop 2)).bind fun k=>if k≤999 then some k else none else none
def minorN (s:List UInt8):List UInt8:=if [49,46].isPrefixOf s then s.drop 2 else s
def minorV (s:List UInt8):Int:=match Lib.atoiAll (minorN s) with
 | .ok v=>v
 | .range=>Lib.atoiSat (minorN s)
 | _=>0
theorem qmt {s:List UInt8} {v:Int} (h:Lib.atoiAll (s.drop 2)=.ok v):minorB s=if [49,46].isPrefixOf s then (if 0≤v∧v≤999∧Lib.decDigits v.toNat=s.drop 2 then some v.toNat else none) else none:=by
 unfold minorB
 split
 ·split
  ·rename_i h2
   rw[← h2.2.2,qr7,if_pos (by omega)]
   simp only[Option.bind_some]
   rw[if_pos (by omega)]
  ·rename_i h2
   cases hn:numB (s.drop 2) with
   | none=>rfl
   | some k =>
    simp only[Option.bind_some]
    rw[if_neg]
    intro hk
    unfold numB at hn
    split at hn
    ·rename_i ho
     simp only[numOk,allB,Bool.and_eq_true,Bool.not_eq_true',List.isEmpty_eq_false_iff,decide_eq_true_eq] at ho
     injection hn with hn
     have hd:=qg5 (s.drop 2) ho.1.1.1 ho.1.2
     have ha:=qfp (s.drop 2) ho.1.1.1 ho.1.1.2 (by omega)
     rw[h] at ha
     injection ha with ha
     apply h2
     subst ha
     refine⟨by omega,by omega,?_⟩
     rw[show (((valB (s.drop 2):Nat):Int)).toNat=valB (s.drop 2) by simp];exact hd
    ·cases hn
 ·rfl
theorem qmu {s:List UInt8} (h:∀v,Lib.atoiAll (s.drop 2)≠.ok v):minorB s=none:=by
 unfold minorB
 split
 ·cases hn:numB (s.drop 2) with
  | none=>rfl
  | some k =>
   exfalso
   unfold numB at hn
   split at hn
   ·rename_i ho
    simp only[numOk,allB,Bool.and_eq_true,Bool.not_eq_true',List.isEmpty_eq_false_iff,decide_eq_true_eq] at ho
    exact h _ (qfp (s.drop 2) ho.1.1.1 ho.1.1.2 (by omega))
   ·cases hn
 ·rfl
theorem qlo (s:List UInt8) (hs:s.length≤2^29) (σ):ev 66 [.str s] σ=some (.tup [.int .i64 (minorV s),.bool (minorB s).isSome],σ):=by
 have hc:=qel s [49,46] (by omega) (by simp)
 have hat:=fun σ=>qo6 [.str (minorN s)] σ
 have hlen:(minorN s).length≤s.length:=by unfold minorN;split<;>simp
 have hmV:minorV s=match Lib.atoiAll (minorN s) with
  | .ok v=>v
  | .range=>Lib.atoiSat (minorN s)
  | _=>0:=rfl
 have hnn:(if [49,46].isPrefixOf s=true then s.drop 2 else s)=minorN s:=rfl
 simp only[List.length_cons,List.length_nil,Nat.zero_add,Nat.reduceAdd,hnn] at hc
 simp only[atoiT] at hat
 have hat':=fun σ=>(hat σ).trans (ql (by omega))
 clear hat
 cases hp:[49,46].isPrefixOf s with
 | false =>
  have hB:minorB s=none:=by unfold minorB;rw[hp];rfl
  rw[hp] at hc
  rw[hB]
  rcases hq:Lib.atoiAll (minorN s) with v|_|_<;>rw[hq] at hmV<;>simp only[hq] at hat'<;>simp only at hmV
  all_goals
   refine qd rfl Tryz.func66 rfl (by simp[Tryz.ntmps66]) (by kernel_rfl) (by kernel_rfl) ?_
   simp (maxSteps:=4000000) [hc,hat',hmV,Tryz.results66]
 | true =>
  have hN:minorN s=s.drop 2:=by unfold minorN;rw[hp];rfl
  rw[hp] at hc
  have hC:(minorN s).length≤s.length:=hlen
  rcases hq:Lib.atoiAll (minorN s) with v|_|_<;>rw[hq] at hmV<;>simp only[hq] at hat'<;>simp only at hmV
  ·rw[hN] at hq
   have hB:=qmt hq
   rw[hp,if_pos rfl,← hN] at hB
   by_cases h0:0≤v
   ·by_cases h9:v≤999
    ·obtain⟨k,rfl⟩:∃k:Nat,v=(k:Int):=⟨v.toNat,by omega⟩
     have hI:=qv4 k (by omega)
     have hk0:(0:Int)≤(k:Int):=by omega
     have hk9:k≤999:=by omega
     have hkt:((k:Int)).toNat=k:=by simp
     rw[hkt] at hB
     by_cases hd:Lib.decDigits k=minorN s
     ·rw[if_pos ⟨h0,h9,hd⟩] at hB
      have hd':(Lib.decDigits k==minorN s)=true:=by simpa using hd
      refine qd rfl Tryz.func66 rfl (by simp[Tryz.ntmps66]) (by kernel_rfl) (by kernel_rfl) ?_
      simp (maxSteps:=4000000) [hc,hat',hmV,hI,hk9,hd',hB,Tryz.results66]
     ·rw[if_neg (fun h=>hd h.2.2)] at hB
      have hd':(Lib.decDigits k==minorN s)=false:=by simpa using hd
      refine qd rfl Tryz.func66 rfl (by simp[Tryz.ntmps66]) (by kernel_rfl) (by kernel_rfl) ?_
      simp (maxSteps:=4000000) [hc,hat',hmV,hI,hk9,hd',hB,Tryz.results66]
    ·rw[if_neg (fun h=>h9 h.2.1)] at hB
     refine qd rfl Tryz.func66 rfl (by simp[Tryz.ntmps66]) (by kernel_rfl) (by kernel_rfl) ?_
     simp (maxSteps:=4000000) [hc,hat',hmV,h0,h9,hB,Tryz.results66]
   ·rw[if_neg (fun h=>h0 h.1)] at hB
    refine qd rfl Tryz.func66 rfl (by simp[Tryz.ntmps66]) (by kernel_rfl) (by kernel_rfl) ?_
    simp (maxSteps:=4000000) [hc,hat',hmV,h0,hB,Tryz.results66]
  all_goals
   have hB:minorB s=none:=qmu fun v hv=>by rw[← hN,hq] at hv;cases hv
   refine qd rfl Tryz.func66 rfl (by simp[Tryz.ntmps66]) (by kernel_rfl) (by kernel_rfl) ?_
   simp (maxSteps:=4000000) [hc,hat',hmV,hB,Tryz.results66]
def rpE (x:Rp):Int:=fstE [fstE [(pathB x.1.1:Int),if x.1.2=[] then 0 else (checkB x.1.1 x.1.2:Int)],(checkB x.2.1 x.2.2:Int)]
def qdi (m:List UInt8×List UInt8):Prop:=m.1.length≤2^29∧m.2.length≤2^29
theorem qbv (x:Rp) (h1:qdi x.1) (h2:qdi x.2) (σ):ev 76 [rpF x] σ=some (.int .i64 (rpE x),σ):=by
 obtain⟨⟨x1,x2⟩,x3,x4⟩:=x
 obtain⟨a1,a2⟩:=h1
 obtain⟨a3,a4⟩:=h2
 simp only at a1 a2 a3 a4
 have hP:=qb1 x1 (by omega)
 have hC1:=qda x1 x2 (by omega) (by omega)
 have hC2:=qda x3 x4 (by omega) (by omega)
 have h7:=fun a b=>qam [a,b] (by simp)
 have hA:rpE ((x1,x2),x3,x4)=fstE [fstE [(pathB x1:Int),if x2=[] then 0 else (checkB x1 x2:Int)],(checkB x3 x4:Int)]:=rfl
 have hz:∀a b,fstE [fstE [a,0],b]=fstE [a,b]:=fun a b=>by simp[fstE,orI];split<;>simp_all
 simp only[rpFx]
 obtain⟨p,hp⟩:∃p:Int,(pathB x1:Int)=p:=⟨_,rfl⟩
 obtain⟨c1,hc1⟩:∃p:Int,(checkB x1 x2:Int)=p:=⟨_,rfl⟩
 obtain⟨c2,hc2⟩:∃p:Int,(checkB x3 x4:Int)=p:=⟨_,rfl⟩
 rw[hp] at hP
 rw[hc1] at hC1
 rw[hc2] at hC2
 rw[hp,hc1,hc2] at hA
 simp only[List.map_cons,List.map_nil] at h7
 refine qd rfl Tryz.func76 rfl (by simp[Tryz.ntmps76]) (by kernel_rfl) (by kernel_rfl) ?_
 by_cases hx:x2=[]
 ·subst hx
  rw[if_pos rfl,hz] at hA
  simp (maxSteps:=4000000) [hP,hC1,hC2,h7,hA,Tryz.results76]
 ·rw[if_neg hx] at hA
  have hx':(x2==[])=false:=by simpa using hx
  simp (maxSteps:=4000000) [hP,hC1,hC2,h7,hx,hx',hA,Tryz.results76]
def rtE (x:Rt):Int:=fstE [if (readB x.1).isSome&&(readB x.2).isSome then 0 else 8,if cmpB x.1 x.2>0 then 6 else 0]
theorem qbw (x:Rt) (h:qdi x) (σ):ev 79 [rtF x] σ=some (.int .i64 (rtE x),σ):=by
 obtain⟨x1,x2⟩:=x
 obtain⟨a1,a2⟩:=h
 simp only at a1 a2
 have hV1:=qib x1 (by omega)
 have hV2:=qib x2 (by omega)
 have hC:=qfy x1 x2 (by omega) (by omega)
 have hW:=fun b e=>qaw b e
 have h7:=fun a b=>qam [a,b] (by simp)
 have hA:rtE (x1,x2)=fstE [if (readB x1).isSome&&(readB x2).isSome then 0 else 8,if cmpB x1 x2>0 then 6 else 0]:=rfl
 rw[hA]
 obtain⟨v1,hv1⟩:∃b,(readB x1).isSome=b:=⟨_,rfl⟩
 obtain⟨v2,hv2⟩:∃b,(readB x2).isSome=b:=⟨_,rfl⟩
 obtain⟨c,hc⟩:∃c,cmpB x1 x2=c:=⟨_,rfl⟩
 rw[hv1] at hV1
 rw[hv2] at hV2
 rw[hc] at hC
 rw[hv1,hv2,hc]
 simp only[rtFx]
 simp only[List.map_cons,List.map_nil] at h7
 refine qd rfl Tryz.func79 rfl (by simp[Tryz.ntmps79]) (by kernel_rfl) (by kernel_rfl) ?_
 cases v1<;>cases v2<;>by_cases hc0:c>0
 all_goals
  simp (maxSteps:=4000000) [-qb]
  refine qg [] _ (k:=?_)
  repeat (first|refine qe _ (hs:=by simp (maxSteps:=4000000) [hV1,hV2,hC,hW,h7,hc0];exact rfl) (k:=?_)|refine qf _ (k:=?_))
  refine qc ?_
  simp (maxSteps:=4000000) [hc0,Tryz.results79]
end Go.Proofs.Tryz.Ai
end
section
namespace Go.Proofs.Tryz.Ai
open Go Go.AI Go.Proofs
set_option maxHeartbeats 4000000
set_option maxRecDepth 4000
set_option linter.unusedVariables false
def eachF {α:Type} (own:α→Int) (same:α→α→Bool):List α→List α→Int
 | _,[]=>0
 | a,x::r=>orI (fstE [own x,if a.any (same x) then 12 else 0]) (eachF own same (a++[x]) r)
def eachE {α:Type} (own:α→Int) (same:α→α→Bool) (l:List α):Int:=eachF own same [] l
theorem qef {α:Type} {own:α→Int} {same:α→α→Bool} {l:List α} {i:Nat} {x:α} (hx:l[i]? = some x):eachF own same (l.take i) (l.drop i)=orI (fstE [own x,if (l.take i).any (same x) then 12 else 0]) (eachF own same (l.take (i+1)) (l.drop (i+1))):=by
 obtain⟨hi,he⟩:=List.getElem?_eq_some_iff.1 hx
 rw[List.drop_eq_getElem_cons hi,he,eachF,List.take_add_one,hx];rfl
theorem qsw (l:List (List UInt8×List UInt8)) (hl:l.length≤2^29) (g1 g2 g3:FuncId) (hg1:g1<100000) (hg2:g2<100000) (hg3:g3<100000) (own:List UInt8×List UInt8→Int) (same:List UInt8×List UInt8→List UInt8×List UInt8→Bool) (cs:List UInt8×List UInt8→List AV) (sh:Option (TypeId×Nat))
  (hown:∀x∈l,∀σ,ev g1 [modA x] σ=some (.int .i64 (own x),σ)) (hsame:∀x∈l,∀σ:List (List AV),ev g2 [modA x] σ=some (.fn g3 [.gp σ.length 0 sh],σ++[cs x]))
  (hq:∀x∈l,∀y,∀(σ:List (List AV)) b,σ[b]? = some (cs x)→ev g3 [modA y,.gp b 0 sh] σ=some (.bool (same x y),σ)) (σ:List (List AV)) :
  ev 73 [.sl .sh (l.map modA),.fn g1 [],.fn g2 []] σ=some (.int .i64 (eachE own same l),σ):=by
 have h7:=fun a b=>qam [a,b] (by simp)
 simp only[List.map_cons,List.map_nil] at h7
 refine qd rfl Tryz.func73 rfl (by simp[Tryz.ntmps73]) (by kernel_rfl) (by kernel_rfl) ?_
 simp (maxSteps:=4000000) []
 refine qn (I:=fun p:Nat×List (List AV)=>⟨[(0,.sl .sh (l.map modA)),(1,.fn g1 []),(2,.fn g2 []),(10,.sl .sh (l.map modA)),(11,.int .i64 l.length),(12,.int .i64 p.1)],[],p.2⟩) (Pr:=fun p=>p.1≤l.length∧eachE own same l=eachF own same (l.take p.1) (l.drop p.1)∧∃J,p.2=σ++J) (μ:=fun p=>l.length-p.1) (a:=(0,σ)) (by simp) ⟨by simp,rfl,[],by simp⟩ ?_
 rintro⟨i,S⟩ ⟨hi,hE,J,hJ⟩
 simp only at hi hE hJ ⊢
 have w1:IntKind.i64.wrap ((i:Int)+1)=(i:Int)+1:=qk (by omega)
 by_cases hc:i<l.length
 ·obtain⟨x,hx⟩:∃x,l[i]? = some x:=⟨_,List.getElem?_eq_getElem hc⟩
  have hxm:=List.mem_of_getElem? hx
  have hst:=qef (own:=own) (same:=same) hx
  have f1:=hown x hxm S
  have f2:=hsame x hxm S
  have f3:=qeq (l.take i) (by simp;omega) g3 hg3 [.gp S.length 0 sh] (by simp[args,arg,dem]) (same x) (S++[cs x]) (fun y _=>hq x hxm y _ _ (by simp))
  have f4:=fun b e=>qaw b e (S++[cs x])
  have f5:=fun a b=>h7 a b (S++[cs x])
  rw[hst] at hE
  rw[List.map_take] at f3
  obtain⟨o,ho⟩:∃o,own x=o:=⟨_,rfl⟩
  obtain⟨t,ht⟩:∃t,(l.take i).any (same x)=t:=⟨_,rfl⟩
  rw[ho] at f1 hE
  rw[ht] at f3 hE
  obtain⟨c,hcs⟩:∃c,cs x=c:=⟨_,rfl⟩
  rw[hcs] at f2 f3 f4 f5
  obtain⟨k1,k2⟩:=x
  simp only[modAx] at f1 f2
  obtain⟨L,hL⟩:∃L,l.map modA=L:=⟨_,rfl⟩
  have hLl:L.length=l.length:=by rw[← hL];simp
  have hLi:L[i]? = some (modA (k1,k2)):=by rw[← hL,List.getElem?_map,hx];rfl
  have hall:allCells 2 L:=by rw[← hL];simp
  simp only[modAx] at hLi
  rw[hL] at f3 ⊢
  have hil:i≤L.length:=by omega
  by_cases h0:fstE [o,if t=true then 12 else 0]=0
  ·rw[h0] at hE
   have hE':eachE own same l=eachF own same (l.take (i+1)) (l.drop (i+1)):=hE
   simp (maxSteps:=4000000) [-getElem?_pos,-Prod.exists,-Prod.forall,-qb,hc,hLi]
   refine qg [] _ (k:=?_)
   repeat (first|refine qe _ (hs:=by simp (maxSteps:=4000000) [-getElem?_pos,hc,hLi,f1,f2,f3,f4,f5,hg1,hg2,hall,hil];exact rfl) (k:=?_)|refine qf _ (k:=?_))
   refine qc ?_
   simp (maxSteps:=4000000) [-Prod.exists,-Prod.forall,h0,w1]
   exact⟨(i+1,S++[c]),⟨by simp;omega,hE',J++[c],by rw[hJ];simp⟩,by simp;omega,by simp⟩
  ·have hE':eachE own same l=fstE [o,if t=true then 12 else 0]:=by rw[hE];unfold orI;rw[if_neg h0]
   simp (maxSteps:=4000000) [-getElem?_pos,-Prod.exists,-Prod.forall,-qb,hc,hLi]
   refine qg [] _ (k:=?_)
   repeat (first|refine qe _ (hs:=by simp (maxSteps:=4000000) [-getElem?_pos,hc,hLi,f1,f2,f3,f4,f5,hg1,hg2,hall,hil];exact rfl) (k:=?_)|refine qf _ (k:=?_))
   refine qc ?_
   subst hJ
   simp (maxSteps:=4000000) [h0,hE',Tryz.results73]
 ·have hi':i=l.length:=by omega
  subst hi'
  have hE':eachE own same l=0:=by rw[hE,List.drop_length,eachF]
  subst hJ
  simp (maxSteps:=4000000) [hE',Tryz.results73]
theorem qsx (l:List (Rp)) (hl:l.length≤2^29) (g1 g2 g3:FuncId) (hg1:g1<100000) (hg2:g2<100000) (hg3:g3<100000) (own:Rp→Int) (same:Rp→Rp→Bool) (cs:Rp→List AV) (sh:Option (TypeId×Nat))
  (hown:∀x∈l,∀σ,ev g1 [rpF x] σ=some (.int .i64 (own x),σ)) (hsame:∀x∈l,∀σ:List (List AV),ev g2 [rpF x] σ=some (.fn g3 [.gp σ.length 0 sh],σ++[cs x]))
  (hq:∀x∈l,∀y,∀(σ:List (List AV)) b,σ[b]? = some (cs x)→ev g3 [rpF y,.gp b 0 sh] σ=some (.bool (same x y),σ)) (σ:List (List AV)) :
  ev 75 [.sl .sh (l.map rpF),.fn g1 [],.fn g2 []] σ=some (.int .i64 (eachE own same l),σ):=by
 have h7:=fun a b=>qam [a,b] (by simp)
 simp only[List.map_cons,List.map_nil] at h7
 refine qd rfl Tryz.func75 rfl (by simp[Tryz.ntmps75]) (by kernel_rfl) (by kernel_rfl) ?_
 simp (maxSteps:=4000000) []
 refine qn (I:=fun p:Nat×List (List AV)=>⟨[(0,.sl .sh (l.map rpF)),(1,.fn g1 []),(2,.fn g2 []),(10,.sl .sh (l.map rpF)),(11,.int .i64 l.length),(12,.int .i64 p.1)],[],p.2⟩) (Pr:=fun p=>p.1≤l.length∧eachE own same l=eachF own same (l.take p.1) (l.drop p.1)∧∃J,p.2=σ++J) (μ:=fun p=>l.length-p.1) (a:=(0,σ)) (by simp) ⟨by simp,rfl,[],by simp⟩ ?_
 rintro⟨i,S⟩ ⟨hi,hE,J,hJ⟩
 simp only at hi hE hJ ⊢
 have w1:IntKind.i64.wrap ((i:Int)+1)=(i:Int)+1:=qk (by omega)
 by_cases hc:i<l.length
 ·obtain⟨x,hx⟩:∃x,l[i]? = some x:=⟨_,List.getElem?_eq_getElem hc⟩
  have hxm:=List.mem_of_getElem? hx
  have hst:=qef (own:=own) (same:=same) hx
  have f1:=hown x hxm S
  have f2:=hsame x hxm S
  have f3:=qbh (l.take i) (by simp;omega) g3 hg3 [.gp S.length 0 sh] (by simp[args,arg,dem]) (same x) (S++[cs x]) (fun y _=>hq x hxm y _ _ (by simp))
  have f4:=fun b e=>qaw b e (S++[cs x])
  have f5:=fun a b=>h7 a b (S++[cs x])
  rw[hst] at hE
  rw[List.map_take] at f3
  obtain⟨o,ho⟩:∃o,own x=o:=⟨_,rfl⟩
  obtain⟨t,ht⟩:∃t,(l.take i).any (same x)=t:=⟨_,rfl⟩
  rw[ho] at f1 hE
  rw[ht] at f3 hE
  obtain⟨c,hcs⟩:∃c,cs x=c:=⟨_,rfl⟩
  rw[hcs] at f2 f3 f4 f5
  obtain⟨⟨k1,k2⟩,k3,k4⟩:=x
  simp only[rpFx] at f1 f2
  obtain⟨L,hL⟩:∃L,l.map rpF=L:=⟨_,rfl⟩
  have hLl:L.length=l.length:=by rw[← hL];simp
  have hLi:L[i]? = some (rpF ((k1,k2),k3,k4)):=by rw[← hL,List.getElem?_map,hx];rfl
  have hall:allCells 4 L:=by rw[← hL];simp
  simp only[rpFx] at hLi
  rw[hL] at f3 ⊢
  have hil:i≤L.length:=by omega
  by_cases h0:fstE [o,if t=true then 12 else 0]=0
  ·rw[h0] at hE
   have hE':eachE own same l=eachF own same (l.take (i+1)) (l.drop (i+1)):=hE
   simp (maxSteps:=4000000) [-getElem?_pos,-Prod.exists,-Prod.forall,-qb,hc,hLi]
   refine qg [] _ (k:=?_)
   repeat (first|refine qe _ (hs:=by simp (maxSteps:=4000000) [-getElem?_pos,hc,hLi,f1,f2,f3,f4,f5,hg1,hg2,hall,hil];exact rfl) (k:=?_)|refine qf _ (k:=?_))
   refine qc ?_
   simp (maxSteps:=4000000) [-Prod.exists,-Prod.forall,h0,w1]
   exact⟨(i+1,S++[c]),⟨by simp;omega,hE',J++[c],by rw[hJ];simp⟩,by simp;omega,by simp⟩
  ·have hE':eachE own same l=fstE [o,if t=true then 12 else 0]:=by rw[hE];unfold orI;rw[if_neg h0]
   simp (maxSteps:=4000000) [-getElem?_pos,-Prod.exists,-Prod.forall,-qb,hc,hLi]
   refine qg [] _ (k:=?_)
   repeat (first|refine qe _ (hs:=by simp (maxSteps:=4000000) [-getElem?_pos,hc,hLi,f1,f2,f3,f4,f5,hg1,hg2,hall,hil];exact rfl) (k:=?_)|refine qf _ (k:=?_))
   refine qc ?_
   subst hJ
   simp (maxSteps:=4000000) [h0,hE',Tryz.results75]
 ·have hi':i=l.length:=by omega
  subst hi'
  have hE':eachE own same l=0:=by rw[hE,List.drop_length,eachF]
  subst hJ
  simp (maxSteps:=4000000) [hE',Tryz.results75]
theorem qsy (l:List (Rt)) (hl:l.length≤2^29) (g1 g2 g3:FuncId) (hg1:g1<100000) (hg2:g2<100000) (hg3:g3<100000) (own:Rt→Int) (same:Rt→Rt→Bool) (cs:Rt→List AV) (sh:Option (TypeId×Nat))
  (hown:∀x∈l,∀σ,ev g1 [rtF x] σ=some (.int .i64 (own x),σ)) (hsame:∀x∈l,∀σ:List (List AV),ev g2 [rtF x] σ=some (.fn g3 [.gp σ.length 0 sh],σ++[cs x]))
  (hq:∀x∈l,∀y,∀(σ:List (List AV)) b,σ[b]? = some (cs x)→ev g3 [rtF y,.gp b 0 sh] σ=some (.bool (same x y),σ)) (σ:List (List AV)) :
  ev 78 [.sl .sh (l.map rtF),.fn g1 [],.fn g2 []] σ=some (.int .i64 (eachE own same l),σ):=by
 have h7:=fun a b=>qam [a,b] (by simp)
 simp only[List.map_cons,List.map_nil] at h7
 refine qd rfl Tryz.func78 rfl (by simp[Tryz.ntmps78]) (by kernel_rfl) (by kernel_rfl) ?_
 simp (maxSteps:=4000000) []
 refine qn (I:=fun p:Nat×List (List AV)=>⟨[(0,.sl .sh (l.map rtF)),(1,.fn g1 []),(2,.fn g2 []),(10,.sl .sh (l.map rtF)),(11,.int .i64 l.length),(12,.int .i64 p.1)],[],p.2⟩) (Pr:=fun p=>p.1≤l.length∧eachE own same l=eachF own same (l.take p.1) (l.drop p.1)∧∃J,p.2=σ++J) (μ:=fun p=>l.length-p.1) (a:=(0,σ)) (by simp) ⟨by simp,rfl,[],by simp⟩ ?_
 rintro⟨i,S⟩ ⟨hi,hE,J,hJ⟩
 simp only at hi hE hJ ⊢
 have w1:IntKind.i64.wrap ((i:Int)+1)=(i:Int)+1:=qk (by omega)
 by_cases hc:i<l.length
 ·obtain⟨x,hx⟩:∃x,l[i]? = some x:=⟨_,List.getElem?_eq_getElem hc⟩
  have hxm:=List.mem_of_getElem? hx
  have hst:=qef (own:=own) (same:=same) hx
  have f1:=hown x hxm S
  have f2:=hsame x hxm S
  have f3:=qer (l.take i) (by simp;omega) g3 hg3 [.gp S.length 0 sh] (by simp[args,arg,dem]) (same x) (S++[cs x]) (fun y _=>hq x hxm y _ _ (by simp))
  have f4:=fun b e=>qaw b e (S++[cs x])
  have f5:=fun a b=>h7 a b (S++[cs x])
  rw[hst] at hE
  rw[List.map_take] at f3
  obtain⟨o,ho⟩:∃o,own x=o:=⟨_,rfl⟩
  obtain⟨t,ht⟩:∃t,(l.take i).any (same x)=t:=⟨_,rfl⟩
  rw[ho] at f1 hE
  rw[ht] at f3 hE
  obtain⟨c,hcs⟩:∃c,cs x=c:=⟨_,rfl⟩
  rw[hcs] at f2 f3 f4 f5
  obtain⟨k1,k2⟩:=x
  simp only[rtFx] at f1 f2
  obtain⟨L,hL⟩:∃L,l.map rtF=L:=⟨_,rfl⟩
  have hLl:L.length=l.length:=by rw[← hL];simp
  have hLi:L[i]? = some (rtF (k1,k2)):=by rw[← hL,List.getElem?_map,hx];rfl
  have hall:allCells 2 L:=by rw[← hL];simp
  simp only[rtFx] at hLi
  rw[hL] at f3 ⊢
  have hil:i≤L.length:=by omega
  by_cases h0:fstE [o,if t=true then 12 else 0]=0
  ·rw[h0] at hE
   have hE':eachE own same l=eachF own same (l.take (i+1)) (l.drop (i+1)):=hE
   simp (maxSteps:=4000000) [-getElem?_pos,-Prod.exists,-Prod.forall,-qb,hc,hLi]
   refine qg [] _ (k:=?_)
   repeat (first|refine qe _ (hs:=by simp (maxSteps:=4000000) [-getElem?_pos,hc,hLi,f1,f2,f3,f4,f5,hg1,hg2,hall,hil];exact rfl) (k:=?_)|refine qf _ (k:=?_))
   refine qc ?_
   simp (maxSteps:=4000000) [-Prod.exists,-Prod.forall,h0,w1]
   exact⟨(i+1,S++[c]),⟨by simp;omega,hE',J++[c],by rw[hJ];simp⟩,by simp;omega,by simp⟩
  ·have hE':eachE own same l=fstE [o,if t=true then 12 else 0]:=by rw[hE];unfold orI;rw[if_neg h0]
   simp (maxSteps:=4000000) [-getElem?_pos,-Prod.exists,-Prod.forall,-qb,hc,hLi]
   refine qg [] _ (k:=?_)
   repeat (first|refine qe _ (hs:=by simp (maxSteps:=4000000) [-getElem?_pos,hc,hLi,f1,f2,f3,f4,f5,hg1,hg2,hall,hil];exact rfl) (k:=?_)|refine qf _ (k:=?_))
   refine qc ?_
   subst hJ
   simp (maxSteps:=4000000) [h0,hE',Tryz.results78]
 ·have hi':i=l.length:=by omega
  subst hi'
  have hE':eachE own same l=0:=by rw[hE,List.drop_length,eachF]
  subst hJ
  simp (maxSteps:=4000000) [hE',Tryz.results78]
end Go.Proofs.Tryz.Ai
end
section
namespace Go.Proofs.Tryz.Ai
open Go Go.AI Go.Proofs
set_option maxHeartbeats 8000000
set_option maxRecDepth 4000
set_option linter.unusedVariables false
structure Mf where
 m:List UInt8
 g:List UInt8
 rq:List Rq
 ex:List (List UInt8×List UInt8)
 rp:List Rp
 rt:List Rt
def mfC (f:Mf):List AV:=[.str f.m,.str f.g,.sl .sh (f.rq.map rqF),.sl .sh (f.ex.map modA),.sl .sh (f.rp.map rpF),.sl .sh (f.rt.map rtF)]
def mfF (f:Mf):AV:=.agg (mfC f)
theorem mfFx (f:Mf):mfF f=.agg [.str f.m,.str f.g,.sl .sh (f.rq.map rqF),.sl .sh (f.ex.map modA),.sl .sh (f.rp.map rpF),.sl .sh (f.rt.map rtF)]:=rfl
structure MfB (f:Mf):Prop where
 m:f.m.length≤2^29
 g:f.g.length≤2^29
 lq:f.rq.length≤2^29
 le:f.ex.length≤2^29
 lp:f.rp.length≤2^29
 lt:f.rt.length≤2^29
 rq:∀x∈f.rq,x.1.length≤2^29∧x.2.1.length≤2^29
 ex:∀x∈f.ex,qdi x
 rp:∀x∈f.rp,qdi x.1∧qdi x.2
 rt:∀x∈f.rt,qdi x
theorem qv6 (x:Rq) (σ):ev 41 [rqF x] σ=some (modA (x.1,x.2.1),σ):=by
 obtain⟨x1,x2,x3⟩:=x
 simp only[rqFx,modAx]
 refine qd rfl Tryz.func41 rfl (by simp[Tryz.ntmps41]) (by kernel_rfl) (by kernel_rfl) ?_
 simp (maxSteps:=4000000) [Tryz.results41]
def rqsF (m:List UInt8):List Rq→List Rq→Int
 | _,[]=>0
 | a,x::r=>orI (fstE [(checkB x.1 x.2.1:Int),if (a.any (isQ x.1)||x.1==m)=true then 12 else 0]) (rqsF m (a++[x]) r)
theorem qpj {m:List UInt8} {l:List Rq} {i:Nat} {x:Rq} (hx:l[i]? = some x):rqsF m (l.take i) (l.drop i)=orI (fstE [(checkB x.1 x.2.1:Int),if ((l.take i).any (isQ x.1)||x.1==m)=true then 12 else 0]) (rqsF m (l.take (i+1)) (l.drop (i+1))):=by
 obtain⟨hi,he⟩:=List.getElem?_eq_some_iff.1 hx
 rw[List.drop_eq_getElem_cons hi,he,rqsF,List.take_add_one,hx];rfl
def mostM (f:Mf):Int:=mxI (mxI (mxI f.rq.length f.ex.length) f.rp.length) f.rt.length
def headE (f:Mf):Int:=fstE [(pathB f.m:Int),if (f.g≠[]∧minorB f.g=none) then 11 else 0,if 200<mostM f then 14 else 0]
def tailE (f:Mf):Int:=fstE [eachE (fun x=>(checkB x.1 x.2:Int)) isM f.ex,eachE rpE (fun x y=>isM x.1 y.1) f.rp,eachE rtE isM f.rt]
def mfE (f:Mf):Int:=orI (headE f) (orI (rqsF f.m [] f.rq) (tailE f))
set_option maxHeartbeats 16000000 in
theorem qpk (f:Mf) (hf:MfB f) (σ:List (List AV)):ev 19 [mfF f] σ=some (.int .i64 (mfE f),σ):=by
 have hm:=qlo f.g hf.g
 have hP:=qb1 f.m (by have:=hf.m;omega)
 have hW:=fun b e=>qaw b e
 have h3:=fun a b c=>qam [a,b,c] (by simp)
 have h2:=fun a b=>qam [a,b] (by simp)
 have hE1:=fun σ=>qsw f.ex hf.le 72 74 148 (by decide) (by decide) (by decide) (fun x=>(checkB x.1 x.2:Int)) isM (fun x=>[.str x.1,.str x.2]) (some (55,2))
  (fun x hx σ=>qda x.1 x.2 (by have:=(hf.ex x hx).1;omega) (by have:=(hf.ex x hx).2;omega) σ) (fun x _ σ=>qph x σ) (fun x _ y σ b hb=>qmq x b _ y σ hb) σ
 have hE2:=fun σ=>qsx f.rp hf.lp 76 77 156 (by decide) (by decide) (by decide) rpE (fun x y=>isM x.1 y.1) (fun x=>[.str x.1.1,.str x.1.2]) (some (55,2))
  (fun x hx σ=>qbv x (hf.rp x hx).1 (hf.rp x hx).2 σ) (fun x _ σ=>qee x σ) (fun x _ y σ b hb=>qf0 x.1 b _ y σ hb) σ
 have hE3:=fun σ=>qsy f.rt hf.lt 79 80 151 (by decide) (by decide) (by decide) rtE isM (fun x=>[.str x.1,.str x.2]) (some (53,2))
  (fun x hx σ=>qbw x (hf.rt x hx) σ) (fun x _ σ=>qpi x σ) (fun x _ y σ b hb=>qmr x b _ y σ hb) σ
 have hlq:=hf.lq
 have hbq:=hf.rq
 have hA:mfE f=orI (fstE [(pathB f.m:Int),if (f.g≠[]∧minorB f.g=none) then 11 else 0,if 200<mostM f then 14 else 0]) (orI (rqsF f.m [] f.rq) (fstE [eachE (fun x=>(checkB x.1 x.2:Int)) isM f.ex,eachE rpE (fun x y=>isM x.1 y.1) f.rp,eachE rtE isM f.rt])):=rfl
 have hX:mostM f=mxI (mxI (mxI f.rq.length f.ex.length) f.rp.length) f.rt.length:=rfl
 obtain⟨e1,he1⟩:∃e,eachE (fun x:List UInt8×List UInt8=>(checkB x.1 x.2:Int)) isM f.ex=e:=⟨_,rfl⟩
 obtain⟨e2,he2⟩:∃e,eachE rpE (fun x y=>isM x.1 y.1) f.rp=e:=⟨_,rfl⟩
 obtain⟨e3,he3⟩:∃e,eachE rtE isM f.rt=e:=⟨_,rfl⟩
 rw[he1] at hE1 hA
 rw[he2] at hE2 hA
 rw[he3] at hE3 hA
 clear he1 he2 he3
 obtain⟨m,g,rq,ex,rp,rt⟩:=f
 simp only at *
 clear hf
 obtain⟨LE,hLE⟩:∃L,ex.map modA=L:=⟨_,rfl⟩
 obtain⟨LP,hLP⟩:∃L,rp.map rpF=L:=⟨_,rfl⟩
 obtain⟨LT,hLT⟩:∃L,rt.map rtF=L:=⟨_,rfl⟩
 have hl1:LE.length=ex.length:=by rw[← hLE];simp
 have hl2:LP.length=rp.length:=by rw[← hLP];simp
 have hl3:LT.length=rt.length:=by rw[← hLT];simp
 rw[hLE] at hE1
 rw[hLP] at hE2
 rw[hLT] at hE3
 obtain⟨p,hp⟩:∃p:Int,(pathB m:Int)=p:=⟨_,rfl⟩
 rw[hp] at hP hA
 obtain⟨mB,hmB⟩:∃b,minorB g=b:=⟨_,rfl⟩
 obtain⟨mV,hmV⟩:∃b,minorV g=b:=⟨_,rfl⟩
 rw[hmB] at hm hA
 rw[hmV] at hm
 obtain⟨X,hXX⟩:∃X,mostM ⟨m,g,rq,ex,rp,rt⟩=X:=⟨_,rfl⟩
 rw[hXX] at hX hA
 simp only[List.map_cons,List.map_nil] at h2 h3
 rw[mfFx]
 simp only[hLE,hLP,hLT]
 obtain⟨c2,hc2⟩:∃c:Int,(if (g≠[]∧mB=none) then 11 else 0)=c:=⟨_,rfl⟩
 obtain⟨c3,hc3⟩:∃c:Int,(if 200<X then 14 else 0)=c:=⟨_,rfl⟩
 rw[hc2,hc3] at hA
 obtain⟨F,hF⟩:∃F,fstE [p,c2,c3]=F:=⟨_,rfl⟩
 rw[hF] at hA
 have hX':mxI (mxI (mxI rq.length LE.length) LP.length) LT.length=X:=by rw[hl1,hl2,hl3,hX]
 refine qd rfl Tryz.func19 rfl (by simp[Tryz.ntmps19]) (by kernel_rfl) (by kernel_rfl) ?_
 simp (maxSteps:=4000000) [-qb,hm,hX']
 refine qjj ⟨[(0,.agg [.str m,.str g,.sl .sh (rq.map rqF),.sl .sh LE,.sl .sh LP,.sl .sh LT]),(1,.lp 1 0),(2,.int .i64 0),(4,.bool mB.isSome),(5,.int .i64 X),(6,.int .i64 F)],[(1,[.str m,.str g,.sl .sh (rq.map rqF),.sl .sh LE,.sl .sh LP,.sl .sh LT])],σ⟩ ?_ ?_
 ·by_cases hg:g=[]
  ·subst hg
   have e2:c2=0:=by rw[← hc2];simp
   subst e2
   refine qec [] _ (by rfl) (by simp (maxSteps:=4000000) [];exact rfl) ?_
   repeat (first|refine qe _ (hs:=by simp (maxSteps:=4000000) [hP,hW,h3,hc3];exact rfl) (k:=?_)|refine qf _ (k:=?_))
   refine qc ?_
   simp (maxSteps:=4000000) [hF]
  ·have hg':(g==[])=false:=by simpa using hg
   cases hmc:mB with
   | none =>
    have e2:c2=11:=by rw[← hc2,hmc];simp[hg]
    subst e2
    subst hmc
    refine qec [] _ (by rfl) (by simp (maxSteps:=4000000) [];exact rfl) ?_
    repeat (first|refine qe _ (hs:=by simp (maxSteps:=4000000) [hP,hW,h3,hc3,hg,hg'];exact rfl) (k:=?_)|refine qf _ (k:=?_))
    refine qc ?_
    simp (maxSteps:=4000000) [hF]
   | some k =>
    have e2:c2=0:=by rw[← hc2,hmc];simp
    subst e2
    subst hmc
    refine qec [] _ (by rfl) (by simp (maxSteps:=4000000) [];exact rfl) ?_
    repeat (first|refine qe _ (hs:=by simp (maxSteps:=4000000) [hP,hW,h3,hc3,hg,hg'];exact rfl) (k:=?_)|refine qf _ (k:=?_))
    refine qc ?_
    simp (maxSteps:=4000000) [hF]
 by_cases hF0:F=0
 rotate_left
 ·have hA':mfE ⟨m,g,rq,ex,rp,rt⟩=F:=by rw[hA];unfold orI;rw[if_neg hF0]
  simp (maxSteps:=4000000) [hF0,hA',Tryz.results19]
 subst hF0
 have hA1:mfE ⟨m,g,rq,ex,rp,rt⟩=orI (rqsF m [] rq) (fstE [e1,e2,e3]):=hA
 simp (maxSteps:=4000000) []
 refine qn (I:=fun p:Nat×List (List AV)=>⟨[(1,.lp 1 0),(50,.sl .sh (rq.map rqF)),(51,.int .i64 rq.length),(52,.int .i64 p.1)],[(1,[.str m,.str g,.sl .sh (rq.map rqF),.sl .sh LE,.sl .sh LP,.sl .sh LT])],p.2⟩) (Pr:=fun p=>p.1≤rq.length∧rqsF m [] rq=rqsF m (rq.take p.1) (rq.drop p.1)∧∃J,p.2=σ++J) (μ:=fun p=>rq.length-p.1) (a:=(0,σ)) (by simp) ⟨by simp,rfl,[],by simp⟩ ?_
 rintro⟨i,S⟩ ⟨hi,hE,J,hJ⟩
 simp only at hi hE hJ ⊢
 have w1:IntKind.i64.wrap ((i:Int)+1)=(i:Int)+1:=qk (by omega)
 by_cases hc:i<rq.length
 ·obtain⟨x,hx⟩:∃x,rq[i]? = some x:=⟨_,List.getElem?_eq_getElem hc⟩
  have hxm:=List.mem_of_getElem? hx
  have hxb:=hbq x hxm
  have hst:=qpj (m:=m) hx
  have f1:=qv6 x
  have f2:=qfz x.1 S
  have f3:=qbg (rq.take i) (by simp;omega) 144 (by decide) [.gp S.length 0 (some (9,1))] (by simp[args,arg,dem]) (isQ x.1) (S++[[.str x.1]]) (fun y _=>qed x.1 _ _ y _ (by simp))
  have f4:=qda x.1 x.2.1 (by omega) (by omega)
  rw[hst] at hE
  rw[List.map_take] at f3
  obtain⟨t,ht⟩:∃t,(rq.take i).any (isQ x.1)=t:=⟨_,rfl⟩
  rw[ht] at f3 hE
  obtain⟨o,ho⟩:∃o:Int,(checkB x.1 x.2.1:Int)=o:=⟨_,rfl⟩
  rw[ho] at f4 hE
  obtain⟨x1,x2,x3⟩:=x
  simp only[rqFx,modAx] at f1 f2 f3 f4 hE
  obtain⟨L,hL⟩:∃L,rq.map rqF=L:=⟨_,rfl⟩
  have hLl:L.length=rq.length:=by rw[← hL];simp
  have hLi:L[i]? = some (.agg [.str x1,.str x2,.bool x3]):=by rw[← hL,List.getElem?_map,hx];rfl
  have hall:allCells 3 L:=by rw[← hL];simp
  rw[hL] at f3 ⊢
  have hil:i≤L.length:=by omega
  obtain⟨q,hq⟩:∃q,(t||x1==m)=q:=⟨_,rfl⟩
  rw[hq] at hE
  simp (maxSteps:=4000000) [-getElem?_pos,-Prod.exists,-Prod.forall,-qb,hc,hLi]
  refine qjj ⟨[(1,.lp 1 0),(50,.sl .sh L),(51,.int .i64 rq.length),(52,.int .i64 i),(8,.lp 8 0),(7,.int .i64 i),(9,.bool q)],[(1,[.str m,.str g,.sl .sh L,.sl .sh LE,.sl .sh LP,.sl .sh LT]),(8,[.str x1,.str x2,.bool x3])],S++[[.str x1]]⟩ ?_ ?_
  ·cases t with
   | true =>
    have e:q=true:=by rw[← hq];rfl
    subst e
    refine qec [] _ (by rfl) (by simp (maxSteps:=4000000) [];exact rfl) ?_
    repeat (first|refine qe _ (hs:=by simp (maxSteps:=4000000) [-getElem?_pos,f2,f3,hall,hil];exact rfl) (k:=?_)|refine qf _ (k:=?_))
    refine qc ?_
    simp (maxSteps:=4000000) []
   | false =>
    by_cases hxm':x1=m
    ·have e:q=true:=by rw[← hq];simpa using hxm'
     have hxe:(x1==m)=true:=by simpa using hxm'
     subst e
     refine qec [] _ (by rfl) (by simp (maxSteps:=4000000) [];exact rfl) ?_
     repeat (first|refine qe _ (hs:=by simp (maxSteps:=4000000) [-getElem?_pos,-beq_iff_eq,f2,f3,hall,hil,hxe];exact rfl) (k:=?_)|refine qf _ (k:=?_))
     refine qc ?_
     simp (maxSteps:=4000000) []
    ·have e:q=false:=by rw[← hq];simpa using hxm'
     have hxe:(x1==m)=false:=by simpa using hxm'
     subst e
     refine qec [] _ (by rfl) (by simp (maxSteps:=4000000) [];exact rfl) ?_
     repeat (first|refine qe _ (hs:=by simp (maxSteps:=4000000) [-getElem?_pos,f2,f3,hall,hil,hxe];exact rfl) (k:=?_)|refine qf _ (k:=?_))
     refine qc ?_
     simp (maxSteps:=4000000) []
  by_cases h0:fstE [o,if q=true then 12 else 0]=0
  ·rw[h0] at hE
   have hE':rqsF m [] rq=rqsF m (rq.take (i+1)) (rq.drop (i+1)):=hE
   simp (maxSteps:=4000000) [-getElem?_pos,-Prod.exists,-Prod.forall,f1,f4,hW,h2,h0,w1]
   exact⟨(i+1,S++[[.str x1]]),⟨by simp;omega,hE',J++[[.str x1]],by rw[hJ];simp⟩,by simp;omega,by simp⟩
  ·have hE':rqsF m [] rq=fstE [o,if q=true then 12 else 0]:=by rw[hE];unfold orI;rw[if_neg h0]
   have hA2:mfE ⟨m,g,rq,ex,rp,rt⟩=fstE [o,if q=true then 12 else 0]:=by rw[hA1,hE'];unfold orI;rw[if_neg h0]
   subst hJ
   simp (maxSteps:=4000000) [-getElem?_pos,f1,f4,hW,h2,h0,hA2,Tryz.results19]
 ·have hi':i=rq.length:=by omega
  subst hi'
  have hE':rqsF m [] rq=0:=by rw[hE,List.drop_length,rqsF]
  have hA2:mfE ⟨m,g,rq,ex,rp,rt⟩=fstE [e1,e2,e3]:=by rw[hA1,hE'];rfl
  subst hJ
  simp (maxSteps:=4000000) [-qb,hc]
  refine qg [] _ (k:=?_)
  repeat (first|refine qe _ (hs:=by simp (maxSteps:=4000000) [hE1,hE2,hE3,h3];exact rfl) (k:=?_)|refine qf _ (k:=?_))
  refine qc ?_
  simp (maxSteps:=4000000) [hA2,Tryz.results19]
end Go.Proofs.Tryz.Ai
end
section
namespace Go.Proofs.Tryz.Ai
open Go Go.AI Go.Proofs
set_option maxHeartbeats 8000000
set_option maxRecDepth 4000
set_option linter.unusedVariables false
noncomputable abbrev pc:Panics:=PC Tryz.prog H T
def fltV (line e:Int):AV:=.ifc 104 (.agg [.int .i64 line,.int .i64 e])
theorem qbi (b:Nat) (sh:Option (TypeId×Nat)) (σ:List (List AV)):ev 117 [.gp b 0 sh,.int .i64 0] σ=some (.tup [],σ):=by
 refine qd rfl Tryz.func117 rfl (by simp[Tryz.ntmps117]) (by kernel_rfl) (by kernel_rfl) ?_
 simp (maxSteps:=4000000) [Tryz.results117]
theorem qaa (b:Nat) (sh:Option (TypeId×Nat)) (σ:List (List AV)) (cs:List AV) (line e:Int) (hb:σ[b]? = some cs) (hl:cs[6]? = some (.int .i64 line)) (he:e≠0):pc 117 [.gp b 0 sh,.int .i64 e] σ (fltV line e):=by
 refine q8 1 7 rfl Tryz.func117 rfl (by simp[Tryz.ntmps117]) (by kernel_rfl) (by kernel_rfl) ?_
 simp (maxSteps:=4000000) [-getElem?_pos,he,hb,hl,fltV]
theorem qeg (b:Nat) (sh:Option (TypeId×Nat)) (n:Nat) (hn:n<200) (σ:List (List AV)):ev 237 [.gp b 0 sh,.int .i64 n] σ=some (.tup [],σ):=by
 have h1:=qaw false 14
 have h2:=qbi b sh
 have h3:¬200≤n:=by omega
 refine qd rfl Tryz.func237 rfl (by simp[Tryz.ntmps237]) (by kernel_rfl) (by kernel_rfl) ?_
 simp (maxSteps:=4000000) [h1,h2,h3,Tryz.results237]
theorem qa2 (b:Nat) (sh:Option (TypeId×Nat)) (n:Nat) (hn:200≤n) (σ:List (List AV)) (cs:List AV) (line:Int) (hb:σ[b]? = some cs) (hl:cs[6]? = some (.int .i64 line)):pc 237 [.gp b 0 sh,.int .i64 n] σ (fltV line 14):=by
 have h1:=qaw true 14
 have h2:=qaa b sh σ cs line 14 hb hl (by decide)
 refine q8 0 4 rfl Tryz.func237 rfl (by simp[Tryz.ntmps237]) (by kernel_rfl) (by kernel_rfl) ?_
 simp (maxSteps:=4000000) [h1,h2,hn]
abbrev Tok:=UInt8×List UInt8
def tkF (t:Tok):AV:=.agg [.u8 t.1,.str t.2]
theorem tkFx (t:Tok):tkF t=.agg [.int .u8 (t.1.toNat:Int),.str t.2]:=rfl
@[simp] theorem allCellsK {l:List Tok}:allCells 2 (l.map tkF)↔True:=⟨fun _=>trivial,fun _ y hy=>by obtain⟨z,_,rfl⟩:=List.mem_map.1 hy;simp[tkF,AV.cells]⟩
@[simp] theorem lowK {n:Nat} {x:Tok}:low n (tkF x)↔True:=by simp[tkF,low,lowL]
def kindsB (l:List Tok) (k:List UInt8):Bool:=l.map (·.1)==k
def textsB (l:List Tok):List (List UInt8):=(l.filter fun t=>t.1==119).map (·.2)
def wordsB (l:List Tok) (k:List UInt8):Option (List (List UInt8)):=if kindsB l k then some (textsB l) else none
def wordsAV (o:Option (List (List UInt8))):AV:=.tup [.sl .sh ((o.getD []).map .str),.bool o.isSome]
theorem textsB_snoc (l:List Tok) (i:Nat) (t:Tok) (h:l[i]? = some t):textsB (l.take (i+1))=textsB (l.take i)++if t.1=119 then [t.2] else []:=by
 unfold textsB
 rw[List.take_add_one,h]
 simp only[Option.toList_some,List.filter_append,List.map_append,List.filter_cons,List.filter_nil]
 by_cases hq:t.1=119<;>simp[hq]
theorem qmv {l:List Tok} {k:List UInt8} {i:Nat} {t:Tok} {c:UInt8} (h:l[i]? = some t) (hk:k[i]? = some c) (hn:t.1≠c):kindsB l k=false:=by
 unfold kindsB
 rw[beq_eq_false_iff_ne]
 intro e
 have:=congrArg (·[i]?) e
 simp only[List.getElem?_map,h,hk,Option.map_some,Option.some.injEq] at this
 exact hn this
theorem qkp {l:List Tok} {k:List UInt8} (hl:l.length=k.length) (h:∀(j:Nat) (t:Tok) (c:UInt8),l[j]? = some t→k[j]? = some c→t.1=c):kindsB l k=true:=by
 unfold kindsB
 rw[beq_iff_eq]
 apply List.ext_getElem?
 intro j
 by_cases hj:j<l.length
 ·obtain⟨t,ht⟩:∃t,l[j]? = some t:=⟨_,List.getElem?_eq_getElem hj⟩
  obtain⟨c,hc⟩:∃c,k[j]? = some c:=⟨_,List.getElem?_eq_getElem (by omega)⟩
  rw[List.getElem?_map,ht,hc];simp[h j t c ht hc]
 ·rw[List.getElem?_eq_none (by simpa using Nat.le_of_not_lt hj),List.getElem?_eq_none (by omega)]
theorem qdb (l:List Tok) (hl:l.length≤2^29) (k:List UInt8) (hk:k.length≤2^29) (σ):ev 120 [.sl .sh (l.map tkF),.str k] σ=some (wordsAV (wordsB l k),σ):=by
 refine qd rfl Tryz.func120 rfl (by simp[Tryz.ntmps120]) (by kernel_rfl) (by kernel_rfl) ?_
 by_cases hlen:l.length=k.length
 ·simp (maxSteps:=4000000) [hlen]
  refine qn (I:=fun i:Nat=>⟨[(1,.str k),(6,.sl (.ex 9 1) ((textsB (l.take i)).map .str)),(14,.sl .sh (l.map tkF)),(15,.int .i64 k.length),(16,.int .i64 i)],[],σ⟩) (Pr:=fun i=>i≤l.length∧∀(j:Nat) (t:Tok) (c:UInt8),j<i→l[j]? = some t→k[j]? = some c→t.1=c) (μ:=fun i=>l.length-i) (a:=0) (by simp[textsB]) ⟨by simp,fun j t c h=>by omega⟩ ?_
  rintro i ⟨hi,hn⟩
  have w1:IntKind.i64.wrap ((i:Int)+1)=(i:Int)+1:=qk (by omega)
  have ht2:(textsB (l.take i)).length≤i:=by
   unfold textsB
   rw[List.length_map]
   exact Nat.le_trans (List.length_filter_le ..) (by simp;omega)
  by_cases hc:i<k.length
  ·obtain⟨t,ht⟩:∃t,l[i]? = some t:=⟨_,List.getElem?_eq_getElem (by omega)⟩
   obtain⟨c,hkc⟩:∃c,k[i]? = some c:=⟨_,List.getElem?_eq_getElem hc⟩
   have hsn:=textsB_snoc l i t ht
   have hbad:=fun h=>qmv ht hkc h
   obtain⟨t1,t2⟩:=t
   simp only at hsn hbad
   obtain⟨L,hL⟩:∃L,l.map tkF=L:=⟨_,rfl⟩
   have hLi:L[i]? = some (.agg [.int .u8 (t1.toNat:Int),.str t2]):=by rw[← hL,List.getElem?_map,ht];rfl
   rw[hL]
   by_cases hq:t1=c
   ·have hn':∀(j:Nat) (t:Tok) (c:UInt8),j<i+1→l[j]? = some t→k[j]? = some c→t.1=c:=by
     intro j t' c' hj h1 h2
     by_cases hji:j=i
     ·subst hji;rw[ht] at h1;rw[hkc] at h2
      injection h1 with h1;injection h2 with h2;subst h1;subst h2;exact hq
     ·exact hn j t' c' (by omega) h1 h2
    subst hq
    by_cases h9:t1=119
    ·subst h9
     rw[if_pos rfl] at hsn
     simp (maxSteps:=4000000) [-getElem?_pos,-qb,hc,hLi,hkc]
     refine qg [] _ (k:=?_)
     repeat (first|refine qe _ (hs:=by simp (maxSteps:=4000000) [-getElem?_pos,hc,hLi,hkc];exact rfl) (k:=?_)|refine qf _ (k:=?_))
     refine qc ?_
     simp (maxSteps:=4000000) [-Prod.forall,w1]
     repeat (rw[ql];rotate_left;(· (try unfold most);omega);simp (maxSteps:=4000000) [-Prod.forall,w1])
     exact⟨i+1,⟨by omega,fun j a b c h1 h2 h3=>hn' j (a,b) c h1 h2 h3⟩,by omega,by simp[hsn]⟩
    ·rw[if_neg h9,List.append_nil] at hsn
     simp (maxSteps:=4000000) [-getElem?_pos,-qb,hc,hLi,hkc,h9]
     refine qg [] _ (k:=?_)
     repeat (first|refine qe _ (hs:=by simp (maxSteps:=4000000) [-getElem?_pos,hc,hLi,hkc];exact rfl) (k:=?_)|refine qf _ (k:=?_))
     refine qc ?_
     simp (maxSteps:=4000000) [-Prod.forall,w1,h9]
     repeat (rw[ql];rotate_left;(· (try unfold most);omega);simp (maxSteps:=4000000) [-Prod.forall,w1,h9])
     exact⟨i+1,⟨by omega,fun j a b c h1 h2 h3=>hn' j (a,b) c h1 h2 h3⟩,by omega,by simp[hsn]⟩
   ·have hw:wordsB l k=none:=by unfold wordsB;rw[hbad hq];rfl
    simp (maxSteps:=4000000) [-getElem?_pos,-qb,hc,hLi,hkc,hq]
    refine qg [] _ (k:=?_)
    repeat (first|refine qe _ (hs:=by simp (maxSteps:=4000000) [-getElem?_pos,hc,hLi,hkc,hq];exact rfl) (k:=?_)|refine qf _ (k:=?_))
    refine qc ?_
    simp (maxSteps:=4000000) [hq,hw,wordsAV,Tryz.results120]
  ·have hi':i=l.length:=by omega
   subst hi'
   have hw:wordsB l k=some (textsB l):=by
    unfold wordsB
    rw[qkp hlen fun j t c h1 h2=>hn j t c (List.getElem?_eq_some_iff.1 h1).1 h1 h2];rfl
   simp (maxSteps:=4000000) [hc,hw,wordsAV,Tryz.results120]
 ·have hlen':¬((l.length:Int)=(k.length:Int)):=by omega
  have hw:wordsB l k=none:=by
   unfold wordsB
   rw[if_neg]
   unfold kindsB
   rw[beq_iff_eq]
   intro e;apply hlen;rw[← e];simp
  simp (maxSteps:=4000000) [hlen,hlen',hw,wordsAV,Tryz.results120]
theorem form_ok (b:Nat) (sh:Option (TypeId×Nat)) (l:List Tok) (hl:l.length≤2^29) (k:List UInt8) (hk:k.length≤2^29) (ws:List (List UInt8)) (hw:wordsB l k=some ws) (σ:List (List AV)) :
  ev 236 [.gp b 0 sh,.sl .sh (l.map tkF),.str k] σ=some (.sl .sh (ws.map .str),σ):=by
 have h1:=qdb l hl k hk
 rw[hw] at h1
 have h2:=qaw false 11
 have h3:=qbi b sh
 simp only[wordsAV,Option.getD_some,Option.isSome_some] at h1
 refine qd rfl Tryz.func236 rfl (by simp[Tryz.ntmps236]) (by kernel_rfl) (by kernel_rfl) ?_
 simp (maxSteps:=4000000) [h1,h2,h3,Tryz.results236]
theorem form_pan (b:Nat) (sh:Option (TypeId×Nat)) (l:List Tok) (hl:l.length≤2^29) (k:List UInt8) (hk:k.length≤2^29) (hw:wordsB l k=none) (σ:List (List AV)) (cs:List AV) (line:Int) (hb:σ[b]? = some cs) (hln:cs[6]? = some (.int .i64 line)) :
  pc 236 [.gp b 0 sh,.sl .sh (l.map tkF),.str k] σ (fltV line 11):=by
 have h1:=qdb l hl k hk
 rw[hw] at h1
 have h2:=qaw true 11
 have h3:=qaa b sh σ cs line 11 hb hln (by decide)
 simp only[wordsAV,Option.getD_none,Option.isSome_none,List.map_nil] at h1
 refine q8 2 4 rfl Tryz.func236 rfl (by simp[Tryz.ntmps236]) (by kernel_rfl) (by kernel_rfl) ?_
 simp (maxSteps:=4000000) [h1,h2,h3]
end Go.Proofs.Tryz.Ai
end
