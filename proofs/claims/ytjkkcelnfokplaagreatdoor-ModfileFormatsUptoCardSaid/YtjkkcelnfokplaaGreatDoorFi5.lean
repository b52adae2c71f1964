/- Part 5 of a proof: Go functions are evaluated on abstract values; no conditions beyond those of each theorem. -/
import Derived.Test.YtjkkcelnfokplaaGreatDoorFi3
import Derived.Test.YtjkkcelnfokplaaGreatDoorProg
import Derived.Lib.Strings
import Derived.Lib.Slices
import Derived.Lib.Walk
import Derived.Lib.Builder
import Derived.Lib.UnsafeStr
import Derived.Lib.MakeNoZero
import Derived.WalkKit
import Derived.Laws.Externs
import Derived.RegionTactic
import Derived.BigRegion
import Derived.Laws.CopyRow
import Derived.Lib.Bytealg
import Derived.Shelf.Strconv.Itoa3
import Derived.Lib.AppendIntMem
import Derived.Shelf.Strings.Search2
import Derived.Shelf.Strconv.AtoiAll
import Derived.Shelf.Strings.LastIndexAll
import Derived.Shelf.Strings.Cut
import Derived.Shelf.Strings.Split
import Derived.Shelf.Small.Wraps
import Derived.Shelf.Strings.Prefix
import Derived.Shelf.Strings.Trim
import Derived.Shelf.Strings.SlTrimAscii
import Derived.Shelf.Strings.Search3
import Derived.Shelf.Vars
import Derived.Lib.SmallJoins
import Derived.Lib.SplitLaws
import Derived.Stop.LaidErr
set_option linter.all false
set_option maxHeartbeats 16000000
set_option maxRecDepth 4000
section
namespace Go.Proofs.Tryz.Ai
open Go Go.AI Go.RowKit Go.Proofs
set_option maxHeartbeats 1000000 in
set_option maxRecDepth 100000 in
theorem qha (b:Nat) (w:World) (h0:w.cell? ⟨b,0,none⟩=some (.pointer (some ⟨b,0,none⟩))) :
  Calls prog 121 #[.pointer (some ⟨b,0,none⟩)] w fun e w'=>e=.returned (.tuple #[])∧w'=w:=by
 obtain⟨j,hj,_⟩:∃j,prog.info? 101=some j∧j.size=2:=Option.map_eq_some_iff.1 (by kernel_rfl)
 go_enter func121,ntmps121
 go_wp2
 rw[Lib.run_neq_ptr_same w _ (te:=101) (by kernel_rfl) hj]
 go_wp2
 go_end0
 exact⟨rfl,rfl⟩
set_option maxHeartbeats 1000000 in
set_option maxRecDepth 100000 in
theorem qgp (b:Nat) (w:World) (h0:w.cell? ⟨b,0,none⟩=some (.pointer none)) (hsh:w.shape? b=some (101,2)) (hfz:w.frozen? ⟨b,0,none⟩=false) :
  Calls prog 121 #[.pointer (some ⟨b,0,none⟩)] w fun e w'=>e=.returned (.tuple #[])∧w'=w.setCell ⟨b,0,none⟩ (.pointer (some ⟨b,0,none⟩)):=by
 obtain⟨j,hj,hjs⟩:∃j,prog.info? 101=some j∧j.size=2:=Option.map_eq_some_iff.1 (by kernel_rfl)
 go_enter func121,ntmps121
 go_wp2
 rw[Lib.run_to_unsafe (t:=101) w ⟨b,0,none⟩ (by kernel_rfl) (by kernel_rfl) hj (by rw[hjs];decide) hsh (Nat.zero_lt_succ 1)]
 simp only[Result.andThen]
 rw[Oper.upon_value]
 go_wp2
 rw[run_callFunc_extern func183 (by kernel_rfl) (by kernel_rfl) (by kernel_rfl) (e:=Extern.AbiNoEscape.same) (by kernel_rfl)]
 rw[Lib.run_noEscape]
 simp only[Result.andThen]
 rw[Oper.upon_value]
 go_wp2
 rw[Lib.run_from_unsafe (u:=101) w ⟨b,0,none⟩ (by kernel_rfl) (by kernel_rfl) hj hsh (by kernel_rfl)]
 simp only[Result.andThen]
 rw[Oper.upon_value]
 go_wp2
 go_end0
 exact⟨rfl,rfl⟩
def SB:TypeId:=101
def U8:TypeId:=5
set_option maxHeartbeats 2000000 in
set_option maxRecDepth 1000000 in
theorem ql2 (b g cap n:Nat) (p:Value) (cur:Array Value) (l:List UInt8) (w:World) (h0:l≠[]) (hn:l.length=n) (hbk:Blk w b #[p,.slice (some ⟨g,0,none⟩) n cap] SB)
  (hg:Blk w g cur U8) (hnc:n≤cap) (hcm:cap≤maxLen) (hcs:cur.size=cap) (hx:∀(j:Nat) (x:UInt8),l[j]? = some x→cur[j]? = some (.int .u8 x.toNat)) :
  Calls prog 52 #[.pointer (some ⟨b,0,none⟩)] w fun e w'=>e=.returned (.string ⟨l.toArray⟩)∧w'=w.drew.freeze ⟨g,0,none⟩ n:=by
 obtain⟨fbk,hbk,okbk⟩:=hbk
 obtain⟨fg,hg,okg⟩:=hg
 subst hn
 have hl0:l.length≠0:=by simpa using h0
 have c1:w.drew.cell? ⟨b,1,none⟩=some (.slice (some ⟨g,0,none⟩) l.length cap):=by
  have:w.drew.heap[b]? = some (.cells #[p,.slice (some ⟨g,0,none⟩) l.length cap] SB fbk):=hbk
  rw[Lib.cell_of_heap this];rfl
 have hSD:(Builtin.unsafeSliceData_ #[99] 191 #[.slice (some ⟨g,0,none⟩) l.length cap]).run prog w.drew=.ok (.pointer (some ⟨g,0,none⟩)) w.drew :=
  Lib.run_unsafeSliceData_row _ _ _ _ _ _ (by omega)
 have hUS:(Builtin.unsafeString_ #[191,3] 9 #[.pointer (some ⟨g,0,none⟩),.int .i64 l.length]).run prog w.drew=.ok (.string ⟨l.toArray⟩) (w.drew.freeze ⟨g,0,none⟩ l.length):=by
  refine Lib.run_unsafeString_row w.drew 191 3 9 5 (by kernel_rfl) (by kernel_rfl) g cur.size (by have hg':w.drew.heap[g]? = some (.cells cur U8 fg):=hg;simp[World.shape?,hg',U8]) l h0 (by omega) (by unfold maxLen at hcm;omega) ?_
  intro j x hj
  have:=hx j x hj
  have hg':w.drew.heap[g]? = some (.cells cur U8 fg):=hg
  rw[show (⟨g,0,none⟩:Addr).add j=⟨g,j,none⟩ from by unfold Addr.add;split<;>simp_all,Lib.cell_of_heap hg'];exact this
 go_enter func52,ntmps52
 go_wp2
 go_region
 all_goals (go_wp2;go_ret;exact⟨rfl,rfl⟩)
set_option maxHeartbeats 2000000 in
set_option maxRecDepth 1000000 in
theorem qh9 (b:Nat) (p:Value) (w:World) (hbk:Blk w b #[p,.slice none 0 0] SB) :
  Calls prog 52 #[.pointer (some ⟨b,0,none⟩)] w fun e w'=>e=.returned (.string ⟨#[]⟩)∧w'=w.drew:=by
 obtain⟨fbk,hbk,okbk⟩:=hbk
 have hUS:∀(W:World) (q:Option Addr),(Builtin.unsafeString_ #[191,3] 9 #[.pointer q,.int .i64 0]).run prog W=.ok (.string .empty) W:=fun W q=>Lib.run_unsafeString_none W _ _ _ q
 have c1:w.drew.cell? ⟨b,1,none⟩=some (.slice none 0 0):=by
  have:w.drew.heap[b]? = some (.cells #[p,.slice none 0 0] SB fbk):=hbk
  rw[Lib.cell_of_heap this];rfl
 have hSD:∀W:World,(Builtin.unsafeSliceData_ #[99] 191 #[.slice none 0 0]).run prog W=.ok (.pointer none) W:=fun W=>rfl
 go_enter func52,ntmps52
 go_wp2
 go_region
 all_goals (go_wp2;go_ret;exact⟨rfl,rfl⟩)
set_option maxHeartbeats 2000000 in
set_option maxRecDepth 1000000 in
theorem ql3 (b g cap:Nat) (p:Value) (w:World) (hc0:cap≠0) (hbk:Blk w b #[p,.slice (some ⟨g,0,none⟩) 0 cap] SB) :
  Calls prog 52 #[.pointer (some ⟨b,0,none⟩)] w fun e w'=>e=.returned (.string ⟨#[]⟩)∧w'=w.drew:=by
 obtain⟨fbk,hbk,okbk⟩:=hbk
 have hUS:∀(W:World) (q:Option Addr),(Builtin.unsafeString_ #[191,3] 9 #[.pointer q,.int .i64 0]).run prog W=.ok (.string .empty) W:=fun W q=>Lib.run_unsafeString_none W _ _ _ q
 have c1:w.drew.cell? ⟨b,1,none⟩=some (.slice (some ⟨g,0,none⟩) 0 cap):=by
  have:w.drew.heap[b]? = some (.cells #[p,.slice (some ⟨g,0,none⟩) 0 cap] SB fbk):=hbk
  rw[Lib.cell_of_heap this];rfl
 have hSD:(Builtin.unsafeSliceData_ #[99] 191 #[.slice (some ⟨g,0,none⟩) 0 cap]).run prog w.drew=.ok (.pointer (some ⟨g,0,none⟩)) w.drew :=
  Lib.run_unsafeSliceData_row _ _ _ _ _ _ hc0
 clear hc0
 go_enter func52,ntmps52
 go_wp2
 go_region
 all_goals (go_wp2;go_ret;exact⟨rfl,rfl⟩)
set_option maxHeartbeats 2000000 in
set_option maxRecDepth 1000000 in
theorem qiy (b g:Nat) (p:Value) (cur:Array Value) (w:World) (hbk:Blk w b #[p,.slice (some ⟨g,0,none⟩) 0 0] SB) (hg:Blk w g cur U8) :
  Calls prog 52 #[.pointer (some ⟨b,0,none⟩)] w fun e w'=>e=.returned (.string ⟨#[]⟩)∧w'=(w.alloc (.view ⟨g,0,none⟩ U8)).drew:=by
 obtain⟨fbk,hbk,okbk⟩:=hbk
 obtain⟨fg,hg,okg⟩:=hg
 have hUS:∀(W:World) (q:Option Addr),(Builtin.unsafeString_ #[191,3] 9 #[.pointer q,.int .i64 0]).run prog W=.ok (.string .empty) W:=fun W q=>Lib.run_unsafeString_none W _ _ _ q
 have hlt:b<w.heap.size:=by
  rcases Nat.lt_or_ge b w.heap.size with h'|h'
  ·exact h'
  ·simp[Array.getElem?_eq_none h'] at hbk
 have c1:w.drew.cell? ⟨b,1,none⟩=some (.slice (some ⟨g,0,none⟩) 0 0):=by
  have:w.drew.heap[b]? = some (.cells #[p,.slice (some ⟨g,0,none⟩) 0 0] SB fbk):=hbk
  rw[Lib.cell_of_heap this];rfl
 have hSD:(Builtin.unsafeSliceData_ #[99] 191 #[.slice (some ⟨g,0,none⟩) 0 0]).run prog w.drew=.ok (.pointer (some ⟨w.drew.heap.size,0,none⟩)) (w.drew.alloc (.view ⟨g,0,none⟩ 5)) :=
  Lib.run_unsafeSliceData_zero w.drew _ _ 5 (by kernel_rfl) ⟨g,0,none⟩ 0 (5,cur.size) (by have hg':w.drew.heap[g]? = some (.cells cur U8 fg):=hg;simp[World.shape?,hg',U8])
 have c2:(w.drew.alloc (.view ⟨g,0,none⟩ 5)).cell? ⟨b,1,none⟩=some (.slice (some ⟨g,0,none⟩) 0 0):=by
  have:(w.drew.alloc (.view ⟨g,0,none⟩ 5)).heap[b]? = _:=(Lib.alloc_old w.drew _ b hlt).trans hbk
  rw[Lib.cell_of_heap this];rfl
 have c3:(w.alloc (.view ⟨g,0,none⟩ 5)).drew.cell? ⟨b,1,none⟩=some (.slice (some ⟨g,0,none⟩) 0 0):=c2
 have c0:w.cell? ⟨b,1,none⟩=some (.slice (some ⟨g,0,none⟩) 0 0):=c1
 clear hlt
 go_enter func52,ntmps52
 go_wp2
 go_region
 all_goals (go_wp2;go_ret;exact⟨rfl,rfl⟩)
end Go.Proofs.Tryz.Ai
end
section
namespace Go.Proofs.Tryz.Ai
open Go Go.AI Go.RowKit Go.Proofs
def copyCheckT:List AV→List (List AV)→Option (AV×List (List AV))
 | [.gp b 0 (some (t,2))],s=>if t=SB then (match s[b]? with
   | some [.nilp,u]=>some (.tup [],s.set b [.gp b 0 (some (SB,2)),u])
   | some [.gp b' 0 _,u]=>if b'=b then some (.tup [],s) else none
   | _=>none) else none
 | _,_=>none
theorem qe5 {B:Nat} {T0:Nat→Prop} {μ0:Gh} {w0:World} {N:Nat} {μ:Gh} {lx:Nat→Option Nat} {w:World} {vs:Array Value} {x:AV} {s:List (List AV)} (hsz:vs.size=1):∃v,vs=#[v]∧vs.getD 0 undef=v:=by
 obtain⟨l⟩:=vs
 match l,hsz with
 | [v],_=>exact⟨v,rfl,rfl⟩
theorem qkk {B:Nat} {W0:World} {xs:List AV} {s:List (List AV)} {r:AV} {s':List (List AV)} (e:copyCheckT xs s=some (r,s')):ACalls prog B W0 121 xs s r s':=by
 unfold copyCheckT at e
 split at e
 ·rename_i b tt
  split at e
  ·rename_i ht
   subst ht
   intro T μ w vs hsz hW hs
   split at e
   ·rename_i u hb
    simp only[Option.some.injEq,Prod.mk.injEq] at e
    obtain⟨rfl,rfl⟩:=e
    obtain⟨blk,cur,ty,h1,h2,h3,h4,h5,h6,h7⟩:=hs.gp_open (i:=0) (b:=b) (off:=0) (sh:=some (SB,2)) (by simp[params,look]) hb (by simp)
    have h8:=h7 _ rfl
    simp only[Prod.mk.injEq] at h8
    obtain⟨rfl,h8⟩:=h8
    obtain⟨v,rfl,hv⟩:=qe5 (B:=B) (T0:=T) (μ0:=μ) (w0:=w) (N:=1) (μ:=μ) (lx:=fun _=>none) (w:=w) (x:=.nilp) (s:=[]) hsz
    have hv0:v=.pointer (some ⟨blk,0,none⟩):=h1
    subst hv0
    have hc0:cur[0]? = some (.pointer none):=by
     have:=(h6 0 .nilp rfl).2.1
     have hq:cur[0]? = some (cur.getD 0 undef):=by simp[Array.getD_eq_getD_getElem?,h8]
     rw[hq];congr 1
     generalize cur.getD 0 undef=z at this
     cases this;rfl
    refine (qgp blk w (by rw[h3.cell];exact hc0) (by simp[h3.shape,h8,SB]) (h3.frozen (by omega))).mono ?_
    rintro e w' ⟨rfl,rfl⟩
    have h9:=hs.setGlobCell (j:=0) (c:=.gp b 0 (some (SB,2))) (v:=.pointer (some ⟨blk,0,none⟩)) hb h2 h3 (by simp) (.mk' ⟨.gp _ _ _ _ h2 (fun q e=>by injection e with e;subst e;simp[h3.shape,h8]),trivial⟩ fun j=>by cases j<;>rfl) rfl
    exact⟨_,_,rfl,h9.unit⟩
   ·rename_i b' sh u hb
    split at e
    ·rename_i hbb
     obtain rfl:b=b':=hbb.symm
     simp only[Option.some.injEq,Prod.mk.injEq] at e
     obtain⟨rfl,rfl⟩:=e
     obtain⟨blk,cur,ty,h1,h2,h3,h4,h5,h6,h7⟩:=hs.gp_open (i:=0) (b:=b) (off:=0) (sh:=some (SB,2)) (by simp[params,look]) hb (by simp)
     have h8:=h7 _ rfl
     simp only[Prod.mk.injEq] at h8
     obtain⟨rfl,h8⟩:=h8
     obtain⟨v,rfl,hv⟩:=qe5 (B:=B) (T0:=T) (μ0:=μ) (w0:=w) (N:=1) (μ:=μ) (lx:=fun _=>none) (w:=w) (x:=.nilp) (s:=[]) hsz
     have hv0:v=.pointer (some ⟨blk,0,none⟩):=h1
     subst hv0
     have hc0:cur[0]? = some (.pointer (some ⟨blk,0,none⟩)):=by
      have:=(h6 0 _ rfl).2.1
      have hq:cur[0]? = some (cur.getD 0 undef):=by simp[Array.getD_eq_getD_getElem?,h8]
      rw[hq];congr 1
      generalize cur.getD 0 undef=z at this
      cases this with
      | gp _ _ blk' _ hq' _=>rw[h2] at hq';injection hq' with hq';rw[hq']
     refine (qha blk w (by rw[h3.cell];exact hc0)).mono ?_
     rintro e w' ⟨rfl,rfl⟩
     exact⟨_,_,rfl,hs.unit⟩
    ·cases e
   ·cases e
  ·cases e
 ·cases e
noncomputable def stringT:List AV→List (List AV)→Option (AV×List (List AV))
 | [.gp b 0 (some (t,2))],s=>if t=SB then (match s[b]? with
   | some [u,.sl (.ex ty 1) xs]=>if ty=U8 then bnd (bytesOf xs) fun l=>need (xs=l.map .u8) (some (.str l,s.set b [u,.sl .sh xs])) else none
   | some [u,.sl .nil []]=>some (.str [],s)
   | _=>none) else none
 | _,_=>none
theorem qq8 {B:Nat} {W0:World} {xs:List AV} {s:List (List AV)} {r:AV} {s':List (List AV)} (e:stringT xs s=some (r,s')):ACalls prog B W0 52 xs s r s':=by
 unfold stringT at e
 split at e
 ·rename_i b tt
  split at e
  ·rename_i ht
   subst ht
   intro T μ w vs hsz hW hs
   split at e
   ·rename_i u ty2 xs hb
    split at e
    rotate_left
    ·cases e
    rename_i hty
    subst hty
    obtain⟨l,hl,e⟩:=qa e
    obtain⟨hxs,e⟩:=qn e
    simp only[Option.some.injEq,Prod.mk.injEq] at e
    obtain⟨rfl,rfl⟩:=e
    obtain⟨blk,cur,ty,h1,h2,h3,h4,h5,h6,h7⟩:=hs.gp_open (i:=0) (b:=b) (off:=0) (sh:=some (SB,2)) (by simp[params,look]) hb (by simp)
    have h8:=h7 _ rfl
    simp only[Prod.mk.injEq] at h8
    obtain⟨rfl,h8⟩:=h8
    obtain⟨v,rfl,hv⟩:=qe5 (B:=B) (T0:=T) (μ0:=μ) (w0:=w) (N:=1) (μ:=μ) (lx:=fun _=>none) (w:=w) (x:=.nilp) (s:=[]) hsz
    have hv0:v=.pointer (some ⟨blk,0,none⟩):=h1
    subst hv0
    obtain⟨p,q,rfl⟩:∃p q,cur=#[p,q]:=by
     obtain⟨l⟩:=cur
     match l,h8 with
     | [p,q],_=>exact⟨p,q,rfl⟩
    have k1:=h6 1 _ rfl
    have kr:Rep B μ w q (.sl (.ex U8 1) xs):=k1.2.1
    have kt:Tk1 B μ w q (.sl (.ex U8 1) xs):=k1.2.2
    have hq1:hs=hs:=rfl
    have hqc:=hs.quietCell hb (j:=1) rfl
    have hown:own ⟨#[.pointer (some ⟨blk,0,none⟩)],[]⟩ (fun _=>none) μ w ⟨params 0 [.gp b 0 (some (SB,2))],[],s⟩ (.gc b 1)=exBlk q (.sl (.ex U8 1) xs):=by
     simp[own,ownB,hb,h2,h3.cell]
    rcases kt with hn|⟨g,cap,cur,rfl,hB,hg,c1,c2,c3,c4,c5,c6⟩
    ·subst hn
     have hx:xs=[]:=by cases kr<;>rfl
     subst hx
     injection hl with hl;subst hl
     refine (qh9 blk p w h3).mono ?_
     rintro e w' ⟨rfl,rfl⟩
     exact⟨_,_,rfl,hqc.drew.1.text []⟩
    ·have hfree:∀l,own ⟨#[.pointer (some ⟨blk,0,none⟩)],[]⟩ (fun _=>none) μ w ⟨params 0 [.gp b 0 (some (SB,2))],[],s.set b [u,.sl .sh xs]⟩ l≠some g:=by
      intro l e
      have hle:Le ⟨params 0 [.gp b 0 (some (SB,2))],[],s.set b [u,.sl .sh xs]⟩ ⟨params 0 [.gp b 0 (some (SB,2))],[],s⟩:=by
       have hb':b<s.length:=(List.getElem?_eq_some_iff.1 hb).1
       refine⟨fun i v e=>⟨v,e,.inl rfl⟩,fun d cs e=>⟨cs,e,CLe.refl _⟩,fun b' cs' e=>?_,by simp,id⟩
       simp only[List.getElem?_set] at e
       by_cases q:b=b'
       ·subst q
        simp[hb'] at e;subst e
        refine⟨_,hb,rfl,fun j' c' e=>?_⟩
        match j',e with
        | 0,e=>exact⟨_,rfl,.inl (by simpa using e.symm)⟩
        | 1,e=>exact⟨_,rfl,.inr (by simpa[dem1] using e.symm)⟩
       ·rw[if_neg q] at e;exact⟨cs',e,CLe.refl _⟩
      have e1:=own_le hle e
      have:=hs.inj l (.gc b 1) g e1 (by rw[hown];rfl)
      subst this
      have hb':b<s.length:=(List.getElem?_eq_some_iff.1 hb).1
      simp[own,ownB,List.getElem?_set,hb',h2,h3.cell,exBlk] at e
     have hr:=hs.rng (.gc b 1) g (by rw[hown];rfl)
     have hqc':Sim B T μ w 1 μ (fun _=>none) ⟨#[.pointer (some ⟨blk,0,none⟩)],[]⟩ w ⟨params 0 [.gp b 0 (some (SB,2))],[],s.set b [u,.sl .sh xs]⟩:=hqc
     by_cases hx:xs=[]
     ·subst hx
      injection hl with hl;subst hl
      by_cases hc0:cap=0
      ·subst hc0
       refine (qiy blk g p cur w h3 hg).mono ?_
       rintro e w' ⟨rfl,rfl⟩
       exact⟨_,_,rfl,(hqc'.alloc _).drew.1.text []⟩
      ·refine (ql3 blk g cap p w hc0 h3).mono ?_
       rintro e w' ⟨rfl,rfl⟩
       exact⟨_,_,rfl,hqc'.drew.1.text []⟩
     ·have hl0:l≠[]:=fun e=>by subst e;exact hx hxs
      have hll:l.length=xs.length:=by rw[hxs];simp
      obtain⟨ad,cap',he,_,_,_,k4⟩:=qf4 kr
      obtain⟨b',off',sz',f,had,hsz',hall',hcell,hrep⟩:=k4 hx
      injection he with he1 he2 he3
      rw[had] at he1
      injection he1 with he1
      injection he1 with e1 e2
      subst e1;subst e2
      have hsz1:sz'=1:=by
       obtain⟨x0,hx0⟩:=List.exists_mem_of_ne_nil xs hx
       rw[← (hall' x0 hx0).1];exact (c5 x0 hx0).1
      subst hsz1
      refine (ql2 blk g cap xs.length p cur l w hl0 hll h3 hg c1 c2 (by omega) (fun j x hj=>?_)).mono ?_
      ·have hjl:j<l.length:=(List.getElem?_eq_some_iff.1 hj).1
       have hxj:xs[j]? = some (.u8 x):=by rw[hxs];simp[hj]
       have h10:=(hcell j (by omega)).1
       have h11:=hrep j 0 (.u8 x) (by rw[hxj];rfl)
       rw[Nat.zero_add,qab hg] at h10
       rw[h10];congr 1
       simp only[Nat.mul_one,Nat.add_zero] at h11
       generalize f j=z at h11
       cases h11;rfl
      ·rintro e w' ⟨rfl,rfl⟩
       have h12:=hqc'.drew
       exact⟨_,_,rfl,(h12.1.freeze (g:=g) (n:=xs.length) (fun l e=>hfree l (by rw[← h12.2];exact e)) hB hr.2.2).text l⟩
   ·rename_i u hb
    simp only[Option.some.injEq,Prod.mk.injEq] at e
    obtain⟨rfl,rfl⟩:=e
    obtain⟨blk,cur,ty,h1,h2,h3,h4,h5,h6,h7⟩:=hs.gp_open (i:=0) (b:=b) (off:=0) (sh:=some (SB,2)) (by simp[params,look]) hb (by simp)
    have h8:=h7 _ rfl
    simp only[Prod.mk.injEq] at h8
    obtain⟨rfl,h8⟩:=h8
    obtain⟨v,rfl,hv⟩:=qe5 (B:=B) (T0:=T) (μ0:=μ) (w0:=w) (N:=1) (μ:=μ) (lx:=fun _=>none) (w:=w) (x:=.nilp) (s:=[]) hsz
    have hv0:v=.pointer (some ⟨blk,0,none⟩):=h1
    subst hv0
    obtain⟨p,q,rfl⟩:∃p q,cur=#[p,q]:=by
     obtain⟨l⟩:=cur
     match l,h8 with
     | [p,q],_=>exact⟨p,q,rfl⟩
    have kr:Rep B μ w q (.sl .nil []):=(h6 1 _ rfl).2.1
    obtain⟨rfl,_⟩:=kr.nil_val
    refine (qh9 blk p w h3).mono ?_
    rintro e w' ⟨rfl,rfl⟩
    exact⟨_,_,rfl,hs.drew.1.text []⟩
   ·cases e
  ·cases e
 ·cases e
end Go.Proofs.Tryz.Ai
end
section
namespace Go.Proofs.Tryz.Ai
open Go Go.AI Go.RowKit Go.Proofs
set_option maxHeartbeats 1000000 in
set_option maxRecDepth 100000 in
theorem walk_index (s:ByteArray) (c:Int) (w:World) :
  Calls prog 224 #[.string s,.int .u8 c] w fun e w'=>e=.returned (.int .i64 (Lib.indexByte s.data.toList c.toNat.toUInt8))∧w'=w:=by
 go_enter func224,ntmps224
 go_wp2
 rw[run_callFunc_extern func252 (by kernel_rfl) (by kernel_rfl) (by kernel_rfl) (e:=Extern.BytealgIndexByte.indexByte) (by kernel_rfl),Lib.run_indexByteString]
 simp only[Result.andThen]
 rw[Oper.upon_value]
 go_wp2
 go_ret
 exact⟨rfl,rfl⟩
set_option maxHeartbeats 1000000 in
set_option maxRecDepth 100000 in
theorem walk_compare (a b:ByteArray) (w:World) :
  Calls prog 125 #[.string a,.string b] w fun e w'=>e=.returned (.int .i64 (Lib.compareBytes a.data.toList b.data.toList))∧w'=w:=by
 go_enter func125,ntmps125
 go_wp2
 rw[run_callFunc_extern func187 (by kernel_rfl) (by kernel_rfl) (by kernel_rfl) (e:=Extern.BytealgCompare.compare) (by kernel_rfl),Lib.run_compareString]
 simp only[Result.andThen]
 rw[Oper.upon_value]
 go_wp2
 go_ret
 exact⟨rfl,rfl⟩
set_option maxHeartbeats 1000000 in
set_option maxRecDepth 100000 in
theorem walk_count (s:ByteArray) (c:UInt8) (w:World) :
  Calls prog 264 #[.string s,.string ⟨#[c]⟩] w fun e w'=>e=.returned (.int .i64 (Lib.countByte s.data.toList c))∧w'=w:=by
 go_enter func264,ntmps264
 go_wp2
 rw[run_callFunc_extern func277 (by kernel_rfl) (by kernel_rfl) (by kernel_rfl) (e:=Extern.BytealgCount.count) (by kernel_rfl),Lib.run_countString]
 simp only[Result.andThen]
 rw[Oper.upon_value]
 go_wp2
 go_ret
 exact⟨rfl,rfl⟩
section
variable {B:Nat} {W0:World} {T0:Nat→Prop} {μ0:Gh} {w0:World} {N:Nat} {μ:Gh} {lx:Nat→Option Nat} {a:Act} {w:World} {st:St}
theorem ql4 (h:Sim B T0 μ0 w0 N μ lx a w st) (k:IntKind) (n:Int) (h0:μ0.df=[]:=by first|assumption|exact Sim.mdf (by assumption)):Sim B T0 μ0 w0 1 μ (fun _=>none) ⟨#[.int k n],[]⟩ w ⟨[(0,.int k n)],[],st.s⟩ :=
 h.out (.mk' ⟨.int k n,trivial⟩ fun j=>by cases j<;>simp[ownV,exBlk]) fun d i q=>by cases q
theorem two_args {vs:Array Value} (h:vs.size=2):∃u v,vs=#[u,v]:=by
 obtain⟨l⟩:=vs
 match l,h with
 | [u,v],_=>exact⟨u,v,rfl⟩
theorem qa5 {v:Value} {l:List UInt8} (h:Rep B μ w v (.str l)):∃s:ByteArray,v=.string s∧s.data.toList=l:=by
 cases h with
 | str s=>exact⟨s,rfl,rfl⟩
theorem qq9 {v:Value} {k:IntKind} {n:Int} (h:Rep B μ w v (.int k n)):v=.int k n:=by
 cases h;rfl
end
def indexT:List AV→List (List AV)→Option (AV×List (List AV))
 | [.str l,.int .u8 c],s=>some (.int .i64 (Lib.indexByte l c.toNat.toUInt8),s)
 | _,_=>none
theorem qut {B:Nat} {W0:World} {xs:List AV} {s:List (List AV)} {r:AV} {s':List (List AV)} (e:indexT xs s=some (r,s')):ACalls prog B W0 224 xs s r s':=by
 unfold indexT at e
 split at e
 ·rename_i l c
  simp only[Option.some.injEq,Prod.mk.injEq] at e
  obtain⟨rfl,rfl⟩:=e
  intro T μ w vs hsz hW hs
  obtain⟨u,v,rfl⟩:=two_args (vs:=vs) hsz
  obtain⟨st,rfl,rfl⟩:=qa5 (hs.tmp 0 (.str l) (by simp[params,look])).1
  obtain rfl:=qq9 (hs.tmp 1 (.int .u8 c) (by simp[params,look])).1
  refine (walk_index st c w).mono ?_
  rintro e w' ⟨rfl,rfl⟩
  exact⟨_,_,rfl,ql4 hs _ _⟩
 ·cases e
def compareT:List AV→List (List AV)→Option (AV×List (List AV))
 | [.str l,.str m],s=>some (.int .i64 (Lib.compareBytes l m),s)
 | _,_=>none
theorem qoo {B:Nat} {W0:World} {xs:List AV} {s:List (List AV)} {r:AV} {s':List (List AV)} (e:compareT xs s=some (r,s')):ACalls prog B W0 125 xs s r s':=by
 unfold compareT at e
 split at e
 ·rename_i l c
  simp only[Option.some.injEq,Prod.mk.injEq] at e
  obtain⟨rfl,rfl⟩:=e
  intro T μ w vs hsz hW hs
  obtain⟨u,v,rfl⟩:=two_args (vs:=vs) hsz
  obtain⟨st,rfl,rfl⟩:=qa5 (hs.tmp 0 (.str l) (by simp[params,look])).1
  obtain⟨st2,rfl,rfl⟩:=qa5 (hs.tmp 1 (.str c) (by simp[params,look])).1
  refine (walk_compare st st2 w).mono ?_
  rintro e w' ⟨rfl,rfl⟩
  exact⟨_,_,rfl,ql4 hs _ _⟩
 ·cases e
def countT:List AV→List (List AV)→Option (AV×List (List AV))
 | [.str l,.str [c]],s=>some (.int .i64 (Lib.countByte l c),s)
 | _,_=>none
theorem quu {B:Nat} {W0:World} {xs:List AV} {s:List (List AV)} {r:AV} {s':List (List AV)} (e:countT xs s=some (r,s')):ACalls prog B W0 264 xs s r s':=by
 unfold countT at e
 split at e
 ·rename_i l c
  simp only[Option.some.injEq,Prod.mk.injEq] at e
  obtain⟨rfl,rfl⟩:=e
  intro T μ w vs hsz hW hs
  obtain⟨u,v,rfl⟩:=two_args (vs:=vs) hsz
  obtain⟨st,rfl,rfl⟩:=qa5 (hs.tmp 0 (.str l) (by simp[params,look])).1
  obtain⟨⟨⟨p⟩⟩,rfl,hp⟩:=qa5 (hs.tmp 1 (.str [c]) (by simp[params,look])).1
  simp only at hp
  subst hp
  refine (walk_count st c w).mono ?_
  rintro e w' ⟨rfl,rfl⟩
  exact⟨_,_,rfl,ql4 hs _ _⟩
 ·cases e
end Go.Proofs.Tryz.Ai
end
section
namespace Go.Proofs.Tryz.Ai
open Go Go.AI Go.RowKit Go.Proofs Go.Shelf
def ren:Go.Shelf.Ren:=⟨fun|99=>190|103=>133|119=>274|120=>256|129=>281|137=>176|138=>264|143=>210|144=>140|145=>33|146=>191|148=>142|151=>230|152=>255|160=>113|171=>135|172=>134|195=>276|197=>229|205=>268|206=>239|210=>204|217=>224|218=>277|219=>168|220=>111|221=>240|222=>211|223=>212|224=>226|225=>225|227=>171|228=>228|231=>169|232=>170|233=>172|234=>173|235=>174|236=>175|243=>207|244=>205|245=>206|246=>249|247=>244|260=>254|266=>252|267=>227|268=>263|269=>250|271=>231|279=>245|280=>246|281=>247|282=>248|283=>269|284=>270|285=>271|286=>272|287=>266|314=>253|316=>267|317=>280|318=>282|319=>283|320=>284|321=>278|322=>279|337=>286|338=>287|n=>n,fun|0=>0|2=>2|3=>3|4=>4|5=>5|9=>9|20=>20|21=>21|24=>60|31=>88|37=>99|46=>260|51=>277|53=>285|59=>85|75=>103|76=>104|80=>116|85=>271|105=>261|116=>232|117=>233|119=>296|124=>236|127=>191|138=>298|139=>299|143=>302|145=>304|146=>278|167=>270|168=>273|171=>291|173=>294|175=>286|210=>289|212=>305|213=>306|232=>309|233=>310|n=>n,fun|1=>0|3=>3|4=>4|15=>1|16=>2|17=>5|18=>6|19=>7|n=>n⟩
theorem qgq:LaysM.n171 prog ren:={mixed:=by kernel_rfl,f129:=by kernel_rfl,f171:=by kernel_rfl,f243:=by kernel_rfl,f246:=by kernel_rfl,f283:=by kernel_rfl,f284:=by kernel_rfl,f285:=by kernel_rfl,f286:=by kernel_rfl,f317:=by kernel_rfl,f318:=by kernel_rfl,f319:=by kernel_rfl,f320:=by kernel_rfl,f337:=by kernel_rfl,f338:=by kernel_rfl,t0:=underlying0,a0:=Tryz.isAgg0,z0:=Tryz.sizeOf0,v0:=Tryz.zeroValue0,t2:=underlying2,a2:=Tryz.isAgg2,z2:=Tryz.sizeOf2,v2:=Tryz.zeroValue2,t3:=underlying3,a3:=Tryz.isAgg3,z3:=Tryz.sizeOf3,v3:=Tryz.zeroValue3,t4:=underlying4,a4:=Tryz.isAgg4,z4:=Tryz.sizeOf4,v4:=Tryz.zeroValue4,t5:=underlying5,a5:=Tryz.isAgg5,z5:=Tryz.sizeOf5,v5:=Tryz.zeroValue5,t9:=underlying9,a9:=Tryz.isAgg9,z9:=Tryz.sizeOf9,v9:=Tryz.zeroValue9,t20:=underlying20,a20:=Tryz.isAgg20,z20:=Tryz.sizeOf20,v20:=Tryz.zeroValue20,t37:=underlying99,a37:=Tryz.isAgg99,z37:=Tryz.sizeOf99,v37:=Tryz.zeroValue99,t46:=underlying260,a46:=Tryz.isAgg260,z46:=Tryz.sizeOf260,v46:=Tryz.zeroValue260,t51:=underlying277,a51:=Tryz.isAgg277,z51:=Tryz.sizeOf277,v51:=Tryz.zeroValue277,t53:=underlying285,a53:=Tryz.isAgg285,z53:=Tryz.sizeOf285,v53:=Tryz.zeroValue285,t171:=underlying291,a171:=Tryz.isAgg291,z171:=Tryz.sizeOf291,v171:=Tryz.zeroValue291,t173:=underlying294,a173:=Tryz.isAgg294,z173:=Tryz.sizeOf294,v173:=Tryz.zeroValue294,t212:=underlying305,a212:=Tryz.isAgg305,z212:=Tryz.sizeOf305,v212:=Tryz.zeroValue305,t213:=underlying306,a213:=Tryz.isAgg306,z213:=Tryz.sizeOf306,t232:=underlying309,a232:=Tryz.isAgg309,z232:=Tryz.sizeOf309,v232:=Tryz.zeroValue309,t233:=underlying310,a233:=Tryz.isAgg310,z233:=Tryz.sizeOf310,v233:=Tryz.zeroValue310,g17:=by kernel_rfl,g18:=by kernel_rfl,g19:=by kernel_rfl,i0:=by kernel_rfl,i2:=by kernel_rfl,i3:=by kernel_rfl,i4:=by kernel_rfl,i5:=by kernel_rfl,i9:=by kernel_rfl,i20:=by kernel_rfl,i37:=by kernel_rfl,i46:=by kernel_rfl,i51:=by kernel_rfl,i53:=by kernel_rfl,i171:=by kernel_rfl,i173:=by kernel_rfl,i212:=by kernel_rfl,i232:=by kernel_rfl,i233:=by kernel_rfl,m17:=by kernel_rfl,m18:=by kernel_rfl,m19:=by kernel_rfl}
theorem qhb:Lays.n219 prog ren:={mixed:=by kernel_rfl,f217:=by kernel_rfl,f219:=by kernel_rfl,f224:=by kernel_rfl,f225:=by kernel_rfl,f266:=by kernel_rfl,f267:=by kernel_rfl,f314:=by kernel_rfl,t3:=underlying3,a3:=Tryz.isAgg3,z3:=Tryz.sizeOf3,v3:=Tryz.zeroValue3,t4:=underlying4,a4:=Tryz.isAgg4,z4:=Tryz.sizeOf4,v4:=Tryz.zeroValue4,t5:=underlying5,a5:=Tryz.isAgg5,z5:=Tryz.sizeOf5,v5:=Tryz.zeroValue5,t9:=underlying9,a9:=Tryz.isAgg9,z9:=Tryz.sizeOf9,v9:=Tryz.zeroValue9,t46:=underlying260,a46:=Tryz.isAgg260,z46:=Tryz.sizeOf260,v46:=Tryz.zeroValue260,t51:=underlying277,a51:=Tryz.isAgg277,z51:=Tryz.sizeOf277,v51:=Tryz.zeroValue277,t146:=underlying278,a146:=Tryz.isAgg278,z146:=Tryz.sizeOf278,v146:=Tryz.zeroValue278,g1:=by kernel_rfl}
theorem qbw:LaysC.n172 prog ren:={mixed:=by kernel_rfl,f129:=by kernel_rfl,f171:=by kernel_rfl,f172:=by kernel_rfl,f205:=by kernel_rfl,f243:=by kernel_rfl,f244:=by kernel_rfl,f245:=by kernel_rfl,f246:=by kernel_rfl,f247:=by kernel_rfl,f279:=by kernel_rfl,f280:=by kernel_rfl,f281:=by kernel_rfl,f282:=by kernel_rfl,f283:=by kernel_rfl,f284:=by kernel_rfl,f285:=by kernel_rfl,f286:=by kernel_rfl,f287:=by kernel_rfl,f316:=by kernel_rfl,f317:=by kernel_rfl,f318:=by kernel_rfl,f319:=by kernel_rfl,f320:=by kernel_rfl,f321:=by kernel_rfl,f322:=by kernel_rfl,f337:=by kernel_rfl,f338:=by kernel_rfl,t0:=underlying0,a0:=Tryz.isAgg0,z0:=Tryz.sizeOf0,v0:=Tryz.zeroValue0,t2:=underlying2,a2:=Tryz.isAgg2,z2:=Tryz.sizeOf2,v2:=Tryz.zeroValue2,t3:=underlying3,a3:=Tryz.isAgg3,z3:=Tryz.sizeOf3,v3:=Tryz.zeroValue3,t4:=underlying4,a4:=Tryz.isAgg4,z4:=Tryz.sizeOf4,v4:=Tryz.zeroValue4,t5:=underlying5,a5:=Tryz.isAgg5,z5:=Tryz.sizeOf5,v5:=Tryz.zeroValue5,t9:=underlying9,a9:=Tryz.isAgg9,z9:=Tryz.sizeOf9,v9:=Tryz.zeroValue9,t20:=underlying20,a20:=Tryz.isAgg20,z20:=Tryz.sizeOf20,v20:=Tryz.zeroValue20,t21:=underlying21,a21:=Tryz.isAgg21,z21:=Tryz.sizeOf21,v21:=Tryz.zeroValue21,t37:=underlying99,a37:=Tryz.isAgg99,z37:=Tryz.sizeOf99,v37:=Tryz.zeroValue99,t46:=underlying260,a46:=Tryz.isAgg260,z46:=Tryz.sizeOf260,v46:=Tryz.zeroValue260,t51:=underlying277,a51:=Tryz.isAgg277,z51:=Tryz.sizeOf277,v51:=Tryz.zeroValue277,t53:=underlying285,a53:=Tryz.isAgg285,z53:=Tryz.sizeOf285,v53:=Tryz.zeroValue285,t75:=underlying103,a75:=Tryz.isAgg103,z75:=Tryz.sizeOf103,v75:=Tryz.zeroValue103,t76:=underlying104,a76:=Tryz.isAgg104,z76:=Tryz.sizeOf104,v76:=Tryz.zeroValue104,t85:=underlying271,a85:=Tryz.isAgg271,z85:=Tryz.sizeOf271,v85:=Tryz.zeroValue271,t127:=underlying191,a127:=Tryz.isAgg191,z127:=Tryz.sizeOf191,v127:=Tryz.zeroValue191,t143:=underlying302,a143:=Tryz.isAgg302,z143:=Tryz.sizeOf302,v143:=Tryz.zeroValue302,t145:=underlying304,a145:=Tryz.isAgg304,z145:=Tryz.sizeOf304,v145:=Tryz.zeroValue304,t167:=underlying270,a167:=Tryz.isAgg270,z167:=Tryz.sizeOf270,v167:=Tryz.zeroValue270,t168:=underlying273,a168:=Tryz.isAgg273,z168:=Tryz.sizeOf273,v168:=Tryz.zeroValue273,t171:=underlying291,a171:=Tryz.isAgg291,z171:=Tryz.sizeOf291,v171:=Tryz.zeroValue291,t173:=underlying294,a173:=Tryz.isAgg294,z173:=Tryz.sizeOf294,v173:=Tryz.zeroValue294,t175:=underlying286,a175:=Tryz.isAgg286,z175:=Tryz.sizeOf286,v175:=Tryz.zeroValue286,t210:=underlying289,a210:=Tryz.isAgg289,z210:=Tryz.sizeOf289,v210:=Tryz.zeroValue289,t212:=underlying305,a212:=Tryz.isAgg305,z212:=Tryz.sizeOf305,v212:=Tryz.zeroValue305,t213:=underlying306,a213:=Tryz.isAgg306,z213:=Tryz.sizeOf306,t232:=underlying309,a232:=Tryz.isAgg309,z232:=Tryz.sizeOf309,v232:=Tryz.zeroValue309,t233:=underlying310,a233:=Tryz.isAgg310,z233:=Tryz.sizeOf310,v233:=Tryz.zeroValue310,g15:=by kernel_rfl,g16:=by kernel_rfl,g17:=by kernel_rfl,g18:=by kernel_rfl,g19:=by kernel_rfl,t80:=underlying116,a80:=Tryz.isAgg116,z80:=Tryz.sizeOf116,v80:=Tryz.zeroValue116,i0:=by kernel_rfl,i2:=by kernel_rfl,i3:=by kernel_rfl,i4:=by kernel_rfl,i5:=by kernel_rfl,i9:=by kernel_rfl,i20:=by kernel_rfl,i21:=by kernel_rfl,i37:=by kernel_rfl,i46:=by kernel_rfl,i51:=by kernel_rfl,i53:=by kernel_rfl,i75:=by kernel_rfl,i76:=by kernel_rfl,i80:=by kernel_rfl,i85:=by kernel_rfl,i127:=by kernel_rfl,i143:=by kernel_rfl,i145:=by kernel_rfl,i167:=by kernel_rfl,i168:=by kernel_rfl,i171:=by kernel_rfl,i173:=by kernel_rfl,i175:=by kernel_rfl,i210:=by kernel_rfl,i212:=by kernel_rfl,i232:=by kernel_rfl,i233:=by kernel_rfl,m15:=by kernel_rfl,m16:=by kernel_rfl,m17:=by kernel_rfl,m18:=by kernel_rfl,m19:=by kernel_rfl,c0:=by kernel_rfl,c2:=by kernel_rfl,c3:=by kernel_rfl,c4:=by kernel_rfl,c5:=by kernel_rfl,c9:=by kernel_rfl,c20:=by kernel_rfl,c21:=by kernel_rfl,c37:=by kernel_rfl,c46:=by kernel_rfl,c51:=by kernel_rfl,c53:=by kernel_rfl,c75:=by kernel_rfl,c76:=by kernel_rfl,c80:=by kernel_rfl,c85:=by kernel_rfl,c127:=by kernel_rfl,c143:=by kernel_rfl,c145:=by kernel_rfl,c167:=by kernel_rfl,c168:=by kernel_rfl,c171:=by kernel_rfl,c173:=by kernel_rfl,c175:=by kernel_rfl,c210:=by kernel_rfl,c212:=by kernel_rfl,c213:=by kernel_rfl,c232:=by kernel_rfl,c233:=by kernel_rfl}
theorem qhc:Lays.n148 prog ren:={mixed:=by kernel_rfl,f148:=by kernel_rfl,f222:=by kernel_rfl,f223:=by kernel_rfl,f269:=by kernel_rfl,t3:=underlying3,a3:=Tryz.isAgg3,z3:=Tryz.sizeOf3,v3:=Tryz.zeroValue3,t4:=underlying4,a4:=Tryz.isAgg4,z4:=Tryz.sizeOf4,v4:=Tryz.zeroValue4,t5:=underlying5,a5:=Tryz.isAgg5,z5:=Tryz.sizeOf5,v5:=Tryz.zeroValue5,t9:=underlying9,a9:=Tryz.isAgg9,z9:=Tryz.sizeOf9,v9:=Tryz.zeroValue9,t46:=underlying260,a46:=Tryz.isAgg260,z46:=Tryz.sizeOf260,v46:=Tryz.zeroValue260,t51:=underlying277,a51:=Tryz.isAgg277,z51:=Tryz.sizeOf277,v51:=Tryz.zeroValue277,t146:=underlying278,a146:=Tryz.isAgg278,z146:=Tryz.sizeOf278,v146:=Tryz.zeroValue278}
theorem qhd:Lays.n145 prog ren:={mixed:=by kernel_rfl,f145:=by kernel_rfl,f217:=by kernel_rfl,f219:=by kernel_rfl,f220:=by kernel_rfl,f224:=by kernel_rfl,f225:=by kernel_rfl,f266:=by kernel_rfl,f267:=by kernel_rfl,f314:=by kernel_rfl,t3:=underlying3,a3:=Tryz.isAgg3,z3:=Tryz.sizeOf3,v3:=Tryz.zeroValue3,t4:=underlying4,a4:=Tryz.isAgg4,z4:=Tryz.sizeOf4,v4:=Tryz.zeroValue4,t5:=underlying5,a5:=Tryz.isAgg5,z5:=Tryz.sizeOf5,v5:=Tryz.zeroValue5,t9:=underlying9,a9:=Tryz.isAgg9,z9:=Tryz.sizeOf9,v9:=Tryz.zeroValue9,t46:=underlying260,a46:=Tryz.isAgg260,z46:=Tryz.sizeOf260,v46:=Tryz.zeroValue260,t51:=underlying277,a51:=Tryz.isAgg277,z51:=Tryz.sizeOf277,v51:=Tryz.zeroValue277,t59:=underlying85,a59:=Tryz.isAgg85,z59:=Tryz.sizeOf85,v59:=Tryz.zeroValue85,t146:=underlying278,a146:=Tryz.isAgg278,z146:=Tryz.sizeOf278,v146:=Tryz.zeroValue278,g1:=by kernel_rfl}
theorem qhe:Lays.n146 prog ren:={mixed:=by kernel_rfl,f138:=by kernel_rfl,f143:=by kernel_rfl,f146:=by kernel_rfl,f195:=by kernel_rfl,f197:=by kernel_rfl,f217:=by kernel_rfl,f218:=by kernel_rfl,f219:=by kernel_rfl,f221:=by kernel_rfl,f224:=by kernel_rfl,f225:=by kernel_rfl,f260:=by kernel_rfl,f266:=by kernel_rfl,f267:=by kernel_rfl,f268:=by kernel_rfl,f314:=by kernel_rfl,t0:=underlying0,a0:=Tryz.isAgg0,z0:=Tryz.sizeOf0,v0:=Tryz.zeroValue0,t3:=underlying3,a3:=Tryz.isAgg3,z3:=Tryz.sizeOf3,v3:=Tryz.zeroValue3,t4:=underlying4,a4:=Tryz.isAgg4,z4:=Tryz.sizeOf4,v4:=Tryz.zeroValue4,t5:=underlying5,a5:=Tryz.isAgg5,z5:=Tryz.sizeOf5,v5:=Tryz.zeroValue5,t9:=underlying9,a9:=Tryz.isAgg9,z9:=Tryz.sizeOf9,v9:=Tryz.zeroValue9,t21:=underlying21,a21:=Tryz.isAgg21,z21:=Tryz.sizeOf21,v21:=Tryz.zeroValue21,t31:=underlying88,a31:=Tryz.isAgg88,z31:=Tryz.sizeOf88,v31:=Tryz.zeroValue88,t46:=underlying260,a46:=Tryz.isAgg260,z46:=Tryz.sizeOf260,v46:=Tryz.zeroValue260,t51:=underlying277,a51:=Tryz.isAgg277,z51:=Tryz.sizeOf277,v51:=Tryz.zeroValue277,t105:=underlying261,a105:=Tryz.isAgg261,z105:=Tryz.sizeOf261,v105:=Tryz.zeroValue261,t119:=underlying296,a119:=Tryz.isAgg296,z119:=Tryz.sizeOf296,t138:=underlying298,a138:=Tryz.isAgg298,z138:=Tryz.sizeOf298,v138:=Tryz.zeroValue298,t139:=underlying299,a139:=Tryz.isAgg299,z139:=Tryz.sizeOf299,v139:=Tryz.zeroValue299,t146:=underlying278,a146:=Tryz.isAgg278,z146:=Tryz.sizeOf278,v146:=Tryz.zeroValue278,g1:=by kernel_rfl,g3:=by kernel_rfl,g4:=by kernel_rfl}
theorem qhf:Lays.n103 prog ren:={mixed:=by kernel_rfl,f103:=by kernel_rfl,f206:=by kernel_rfl,f210:=by kernel_rfl,t3:=underlying3,a3:=Tryz.isAgg3,z3:=Tryz.sizeOf3,v3:=Tryz.zeroValue3,t4:=underlying4,a4:=Tryz.isAgg4,z4:=Tryz.sizeOf4,v4:=Tryz.zeroValue4,t9:=underlying9,a9:=Tryz.isAgg9,z9:=Tryz.sizeOf9,v9:=Tryz.zeroValue9,t24:=underlying60,a24:=Tryz.isAgg60,z24:=Tryz.sizeOf60,v24:=Tryz.zeroValue60}
theorem qiz:Lays.n99 prog ren:={mixed:=by kernel_rfl,f99:=by kernel_rfl,f206:=by kernel_rfl,t3:=underlying3,a3:=Tryz.isAgg3,z3:=Tryz.sizeOf3,v3:=Tryz.zeroValue3,t4:=underlying4,a4:=Tryz.isAgg4,z4:=Tryz.sizeOf4,v4:=Tryz.zeroValue4,t9:=underlying9,a9:=Tryz.isAgg9,z9:=Tryz.sizeOf9,v9:=Tryz.zeroValue9}
theorem qdz:Lays.n160 prog ren:={mixed:=by kernel_rfl,f119:=by kernel_rfl,f120:=by kernel_rfl,f137:=by kernel_rfl,f151:=by kernel_rfl,f152:=by kernel_rfl,f160:=by kernel_rfl,f197:=by kernel_rfl,f217:=by kernel_rfl,f224:=by kernel_rfl,f225:=by kernel_rfl,f227:=by kernel_rfl,f228:=by kernel_rfl,f231:=by kernel_rfl,f232:=by kernel_rfl,f233:=by kernel_rfl,f234:=by kernel_rfl,f235:=by kernel_rfl,f236:=by kernel_rfl,f260:=by kernel_rfl,f266:=by kernel_rfl,f271:=by kernel_rfl,t0:=underlying0,a0:=Tryz.isAgg0,z0:=Tryz.sizeOf0,v0:=Tryz.zeroValue0,t3:=underlying3,a3:=Tryz.isAgg3,z3:=Tryz.sizeOf3,v3:=Tryz.zeroValue3,t4:=underlying4,a4:=Tryz.isAgg4,z4:=Tryz.sizeOf4,v4:=Tryz.zeroValue4,t5:=underlying5,a5:=Tryz.isAgg5,z5:=Tryz.sizeOf5,v5:=Tryz.zeroValue5,t9:=underlying9,a9:=Tryz.isAgg9,z9:=Tryz.sizeOf9,v9:=Tryz.zeroValue9,t21:=underlying21,a21:=Tryz.isAgg21,z21:=Tryz.sizeOf21,v21:=Tryz.zeroValue21,t46:=underlying260,a46:=Tryz.isAgg260,z46:=Tryz.sizeOf260,v46:=Tryz.zeroValue260,t105:=underlying261,a105:=Tryz.isAgg261,z105:=Tryz.sizeOf261,v105:=Tryz.zeroValue261,t116:=underlying232,a116:=Tryz.isAgg232,z116:=Tryz.sizeOf232,t117:=underlying233,a117:=Tryz.isAgg233,z117:=Tryz.sizeOf233,v117:=Tryz.zeroValue233,t119:=underlying296,a119:=Tryz.isAgg296,z119:=Tryz.sizeOf296,t124:=underlying236,a124:=Tryz.isAgg236,z124:=Tryz.sizeOf236,v124:=Tryz.zeroValue236,t138:=underlying298,a138:=Tryz.isAgg298,z138:=Tryz.sizeOf298,v138:=Tryz.zeroValue298,t139:=underlying299,a139:=Tryz.isAgg299,z139:=Tryz.sizeOf299,v139:=Tryz.zeroValue299,g3:=by kernel_rfl,g4:=by kernel_rfl}
theorem qhg:Lays.n144 prog ren:={mixed:=by kernel_rfl,f143:=by kernel_rfl,f144:=by kernel_rfl,f217:=by kernel_rfl,f219:=by kernel_rfl,f224:=by kernel_rfl,f225:=by kernel_rfl,f266:=by kernel_rfl,f267:=by kernel_rfl,f314:=by kernel_rfl,t3:=underlying3,a3:=Tryz.isAgg3,z3:=Tryz.sizeOf3,v3:=Tryz.zeroValue3,t4:=underlying4,a4:=Tryz.isAgg4,z4:=Tryz.sizeOf4,v4:=Tryz.zeroValue4,t5:=underlying5,a5:=Tryz.isAgg5,z5:=Tryz.sizeOf5,v5:=Tryz.zeroValue5,t9:=underlying9,a9:=Tryz.isAgg9,z9:=Tryz.sizeOf9,v9:=Tryz.zeroValue9,t46:=underlying260,a46:=Tryz.isAgg260,z46:=Tryz.sizeOf260,v46:=Tryz.zeroValue260,t51:=underlying277,a51:=Tryz.isAgg277,z51:=Tryz.sizeOf277,v51:=Tryz.zeroValue277,t146:=underlying278,a146:=Tryz.isAgg278,z146:=Tryz.sizeOf278,v146:=Tryz.zeroValue278,g1:=by kernel_rfl}
def Laid (W:World):Prop:=Lib.TabIs prog W "internal/strconv.uint64pow10" .u64 Lib.pow10Tab
section
variable {B:Nat} {T0:Nat→Prop} {μ0:Gh} {w0:World} {N:Nat} {μ:Gh} {lx:Nat→Option Nat} {a:Act} {w:World} {st:St}
theorem qra (h:Sim B T0 μ0 w0 N μ lx a w st) (k:Nat):Sim B T0 μ0 w0 N μ lx a (w.drewN k) st:=by
 induction k with
 | zero=>exact h
 | succ k ih=>exact ih.drew.1
theorem quv (os:List Obj):∀{w:World},Sim B T0 μ0 w0 N μ lx a w st→Sim B T0 μ0 w0 N μ lx a (Go.Sort.grow w os.toArray) st:=by
 induction os with
 | nil=>exact fun h=>by simpa using h
 | cons o r ih =>
  intro w h
  have:=ih (h.alloc o)
  rw[Go.Sort.alloc_eq_grow,Go.Sort.grow_grow] at this
  simpa using this
end
noncomputable def itoaT:List AV→List (List AV)→Option (AV×List (List AV))
 | [.int .i64 n],s=>need (-9223372036854775808≤n∧n≤9223372036854775807) (some (.str (Lib.itoa n),s))
 | _,_=>none
theorem qx7 {W0:World} (hl:Laid W0) {xs:List AV} {s:List (List AV)} {r:AV} {s':List (List AV)} (e:itoaT xs s=some (r,s')):ACalls prog W0.heap.size W0 135 xs s r s':=by
 unfold itoaT at e
 split at e
 ·rename_i n
  obtain⟨hn,e⟩:=qn e
  simp only[Option.some.injEq,Prod.mk.injEq] at e
  obtain⟨rfl,rfl⟩:=e
  intro T μ w vs hsz hW hs
  obtain⟨v,rfl,_⟩:=qe5 (B:=0) (T0:=T) (μ0:=μ) (w0:=w) (N:=1) (μ:=μ) (lx:=fun _=>none) (w:=w) (x:=.nilp) (s:=[]) hsz
  obtain rfl:=qq9 (hs.tmp 0 (.int .i64 n) (by simp[params,look])).1
  have hw:Laid w:=Lib.tabBelow_of_tabIs hl w hW
  refine (Any.strconv_Itoa qgq n hn.1 hn.2 w hw).mono ?_
  rintro e w' ⟨rfl,k,os,rfl⟩
  exact⟨_,_,rfl,by have:=(quv os.toList (qra hs k)).text (Lib.itoa n);simpa using this⟩
 ·cases e
end Go.Proofs.Tryz.Ai
end
section
namespace Go.Proofs.Tryz.Ai
open Go Go.AI Go.RowKit Go.Proofs Go.Shelf
def IntAt (W:World) (g:Nat):Prop:=∃m,W.cell? ⟨g,0,none⟩=some (.int .i64 m)
def ErrAt (W:World) (g:Nat):Prop:=∃ev,W.cell? ⟨g,0,none⟩=some ev∧(ev=.nilIface∨∃te pe,ev=.iface te pe)
theorem IntAt.below {W0 w:World} {g:Nat} (h:IntAt W0 g) (hb:Below W0.heap.size W0 w):IntAt w g:=by
 obtain⟨m,hm⟩:=h
 exact⟨m,by rw[hb.cell (World.block_lt_of_cell? _ _ hm)];exact hm⟩
theorem ErrAt.below {W0 w:World} {g:Nat} (h:ErrAt W0 g) (hb:Below W0.heap.size W0 w):ErrAt w g:=by
 obtain⟨m,hm,hx⟩:=h
 exact⟨m,by rw[hb.cell (World.block_lt_of_cell? _ _ hm)];exact hm,hx⟩
structure LaidAll (W:World):Prop where
 tab:Laid W
 max:IntAt W 0
 esyn:ErrAt W 1
 eran:ErrAt W 2
theorem maxLen_of {W:World} (h:W.ShapedOpen prog):IntAt W 0 :=
 cell_of_shapedOpen_int (t:=3) (zero:=#[.int .i64 0]) h (by decide +kernel) (by kernel_rfl) rfl (by kernel_rfl) (by kernel_rfl) underlying3
noncomputable def indexST:List AV→List (List AV)→Option (AV×List (List AV))
 | [.str l,.str m],s=>need (l.length<4294967281) (some (.int .i64 (Lib.index l m),s))
 | _,_=>none
theorem qrb {W0:World} (hl:LaidAll W0) {xs:List AV} {s:List (List AV)} {r:AV} {s':List (List AV)} (e:indexST xs s=some (r,s')):ACalls prog W0.heap.size W0 168 xs s r s':=by
 unfold indexST at e
 split at e
 ·rename_i l m
  obtain⟨hn,e⟩:=qn e
  simp only[Option.some.injEq,Prod.mk.injEq] at e
  obtain⟨rfl,rfl⟩:=e
  refine qdq fun w vs hsz hW hr=>?_
  obtain⟨u,v,rfl⟩:=two_args (vs:=vs) hsz
  obtain⟨μ,h0⟩:=hr 0 (.str l) rfl
  obtain⟨μ',h1⟩:=hr 1 (.str m) rfl
  obtain⟨a,rfl,rfl⟩:=qa5 (h0.resolve_right (by simp[isTup]))
  obtain⟨b,rfl,rfl⟩:=qa5 (h1.resolve_right (by simp[isTup]))
  obtain⟨k,hk⟩:=hl.max.below hW
  refine (Any.stringslite_Index qhb a b k w (by simpa using hn) hk).mono ?_
  rintro e w' ⟨rfl,rfl⟩
  exact⟨_,rfl,AI.Told.int _ _,Below.refl _ _⟩
 ·cases e
theorem starErr: "*"++ "errors.errorString"= "*errors.errorString":=by decide
theorem rowErr (u:TypeId) (h:prog.typeName? 3 u=some "*errors.errorString"):u=302 :=
 typeName_ptr_named (nm:= "errors.errorString") (by rw[starErr];kernel_rfl) (by kernel_rfl) (by decide) u (by rw[starErr];exact h)
theorem laidMet_drop {P:Program} {w:World} (k:Nat):∀{laid:List (String×DataW Unit)},laidMet P laid w→laidMet P (laid.drop k) w:=by
 induction k with
 | zero=>intro laid h;exact h
 | succ k ih =>
  intro laid h
  cases laid with
  | nil=>exact h
  | cons x r=>exact ih h.tail
theorem errAt_of {n:String} {text:List UInt8} {r:List (String×DataW Unit)} {W:World} {g:Nat} (h:laidMet prog ((n,.iface "*errors.errorString" (.ptr (.agg [.lit (.string text)])))::r) W)
  (hg:prog.globalNamed n=some g) (ht:(prog.globals[g]?).map (·.type)=some 103):ErrAt W g:=by
 obtain⟨a0,s0,hv0,-,-,-⟩:=laid_sentinel h hg ht underlying103 rowErr underlying302 underlying304 rfl rfl underlying9 (by kernel_rfl) (by kernel_rfl)
 exact⟨_,by have h0:=World.var?_cell hg hv0 0;simpa using h0,.inr ⟨_,_,rfl⟩⟩
noncomputable def atoiT:List AV→List (List AV)→Option (AV×List (List AV))
 | [.str l],s=>need (l.length≤281474976710656) (match Lib.atoiAll l with
  | .ok v=>some (.tup [.int .i64 v,.nili],s)
  | .range=>some (.tup [.int .i64 (Lib.atoiSat l),.ifx],s)
  | _=>some (.tup [.int .i64 0,.ifx],s))
 | _,_=>none
theorem qx8 {W0:World} (hl:LaidAll W0) {xs:List AV} {s:List (List AV)} {r:AV} {s':List (List AV)} (e:atoiT xs s=some (r,s')):ACalls prog W0.heap.size W0 134 xs s r s':=by
 unfold atoiT at e
 split at e
 ·rename_i l
  obtain⟨hn,e⟩:=qn e
  have key:∀r0,some (r0,s)=some (r,s')→(∀(w:World) (a:ByteArray),a.data.toList=l→Below W0.heap.size W0 w→Calls prog 134 #[.string a] w fun e w'=>∃v,e=.returned v∧AI.Told v r0∧Below w.heap.size w w')→ACalls prog W0.heap.size W0 134 [.str l] s r s':=by
   intro r0 e0 hc
   simp only[Option.some.injEq,Prod.mk.injEq] at e0
   obtain⟨rfl,rfl⟩:=e0
   refine qdq fun w vs hsz hW hr=>?_
   obtain⟨v,rfl,_⟩:=qe5 (B:=0) (T0:=fun _=>True) (μ0:=gh0) (w0:=w) (N:=1) (μ:=gh0) (lx:=fun _=>none) (w:=w) (x:=.nilp) (s:=[]) hsz
   obtain⟨μ,h0⟩:=hr 0 (.str l) rfl
   obtain⟨a,rfl,ha⟩:=qa5 (h0.resolve_right (by simp[isTup]))
   exact hc w a ha hW
  rcases hq:Lib.atoiAll l with v|_|_
  ·skip
   rw[hq] at e
   refine key _ e fun w a ha hW=>?_
   subst ha
   refine (Any.strconv_Atoi_ok qbw a (by simp at hn;omega) v hq w).mono ?_
   rintro e w' ⟨rfl,hw⟩
   refine⟨_,rfl,AI.Told.intNil _,?_⟩
   rcases hw with rfl|⟨t,rfl⟩
   ·exact Below.refl _ _
   ·exact Go.Joins.below_bytesWorld _ _ _ _ (Nat.le_refl _)
  ·skip
   rw[hq] at e
   refine key _ e fun w a ha hW=>?_
   subst ha
   obtain⟨ev,h1,h2⟩:=hl.esyn.below hW
   refine (Any.strconv_Atoi_syntax qbw a (by simpa using hn) hq ev w h1 h2).mono ?_
   rintro e w' ⟨N,rfl,_,_,hb⟩
   exact⟨_,rfl,AI.Told.intErr _ _ _,hb⟩
  ·skip
   rw[hq] at e
   refine key _ e fun w a ha hW=>?_
   subst ha
   obtain⟨ev,h1,h2⟩:=hl.eran.below hW
   refine (Any.strconv_Atoi_range qbw a (by simpa using hn) hq ev w h1 h2).mono ?_
   rintro e w' ⟨N,rfl,_,_,hb⟩
   exact⟨_,rfl,AI.Told.intErr _ _ _,hb⟩
 ·cases e
noncomputable def lastIndexT:List AV→List (List AV)→Option (AV×List (List AV))
 | [.str l,.str m],s=>need (l.length<4611686018427387904) (some (.int .i64 (Lib.lastIndex l m),s))
 | _,_=>none
theorem qkl {W0:World} {xs:List AV} {s:List (List AV)} {r:AV} {s':List (List AV)} (e:lastIndexT xs s=some (r,s')):ACalls prog W0.heap.size W0 142 xs s r s':=by
 unfold lastIndexT at e
 split at e
 ·rename_i l m
  obtain⟨hn,e⟩:=qn e
  simp only[Option.some.injEq,Prod.mk.injEq] at e
  obtain⟨rfl,rfl⟩:=e
  refine qdq fun w vs hsz hW hr=>?_
  obtain⟨u,v,rfl⟩:=two_args (vs:=vs) hsz
  obtain⟨μ,h0⟩:=hr 0 (.str l) rfl
  obtain⟨μ',h1⟩:=hr 1 (.str m) rfl
  obtain⟨a,rfl,rfl⟩:=qa5 (h0.resolve_right (by simp[isTup]))
  obtain⟨b,rfl,rfl⟩:=qa5 (h1.resolve_right (by simp[isTup]))
  refine (Any.strings_LastIndex qhc a b (by simpa using hn) w).mono ?_
  rintro e w' ⟨rfl,rfl⟩
  exact⟨_,rfl,AI.Told.int _ _,Below.refl _ _⟩
 ·cases e
theorem told_tup {vs:List Value} {cs:List AV} (hl:vs.length=cs.length) (h:∀(j:Nat) (c:AV),cs[j]? = some c→scal c=true∧∀(B:Nat) (μ:Gh) (w:World),Rep B μ w ((vs.toArray).getD j undef) c):AI.Told (.tuple vs.toArray) (.tup cs):=by
 refine⟨fun B μ w=>⟨.tup _ _ (by simpa using hl) fun j c hc=>(h j c hc).2 B μ w,fun j c hc=>?_⟩,fun j=>?_,by simp⟩
 ·have:=(h j c hc).1
  cases c<;>first|trivial|(simp[scal] at this;done)
 ·cases j with
  | none=>rfl
  | some j =>
   simp only[ownV]
   cases hc:cs[j]? with
   | none=>rfl
   | some c =>
    have:=(h j c hc).1
    simp only[Option.bind_some]
    cases c<;>first|(simp[scal] at this;done)|(simp[exBlk];done)|rfl
theorem qi0 (l:List UInt8) (B:Nat) (μ:Gh) (w:World):Rep B μ w (.string ⟨l.toArray⟩) (.str l):=by
 have:=Rep.str (B:=B) (μ:=μ) (w:=w) ⟨l.toArray⟩;simpa using this
theorem told_ssb (a b:List UInt8) (c:Bool):AI.Told (.tuple #[.string ⟨a.toArray⟩,.string ⟨b.toArray⟩,.bool c]) (.tup [.str a,.str b,.bool c]) :=
 told_tup (vs:=[.string ⟨a.toArray⟩,.string ⟨b.toArray⟩,.bool c]) rfl fun j x hx=>by
  match j,hx with
  | 0,hx=>simp at hx;subst hx;exact⟨rfl,qi0 a⟩
  | 1,hx=>simp at hx;subst hx;exact⟨rfl,qi0 b⟩
  | 2,hx=>simp at hx;subst hx;exact⟨rfl,fun _ _ _=>.bool _⟩
  | j+3,hx=>simp at hx
theorem told_sb (a:List UInt8) (c:Bool):AI.Told (.tuple #[.string ⟨a.toArray⟩,.bool c]) (.tup [.str a,.bool c]) :=
 told_tup (vs:=[.string ⟨a.toArray⟩,.bool c]) rfl fun j x hx=>by
  match j,hx with
  | 0,hx=>simp at hx;subst hx;exact⟨rfl,qi0 a⟩
  | 1,hx=>simp at hx;subst hx;exact⟨rfl,fun _ _ _=>.bool _⟩
  | j+2,hx=>simp at hx
theorem qbq {B:Nat} {W0:World} {f:FuncId} {l m:List UInt8} {s:List (List AV)} {r:AV}
  (h:∀(w:World) (a b:ByteArray),a.data.toList=l→b.data.toList=m→Below B W0 w→Calls prog f #[.string a,.string b] w fun e w'=>∃v,e=.returned v∧AI.Told v r∧Below w.heap.size w w'):ACalls prog B W0 f [.str l,.str m] s r s:=by
 refine qdq fun w vs hsz hW hr=>?_
 obtain⟨u,v,rfl⟩:=two_args (vs:=vs) hsz
 obtain⟨μ,h0⟩:=hr 0 (.str l) rfl
 obtain⟨μ',h1⟩:=hr 1 (.str m) rfl
 obtain⟨a,rfl,ha⟩:=qa5 (h0.resolve_right (by simp[isTup]))
 obtain⟨b,rfl,hb⟩:=qa5 (h1.resolve_right (by simp[isTup]))
 exact h w a b ha hb hW
theorem bsz (m:List UInt8):(⟨m.toArray⟩:ByteArray).size=m.length:=by show m.toArray.size=m.length;simp
theorem blw (w:World) (n:Nat):Below w.heap.size w (w.drewN n):=⟨rfl,rfl,rfl,Nat.le_refl _,fun _ _=>rfl⟩
noncomputable def cutT:List AV→List (List AV)→Option (AV×List (List AV))
 | [.str l,.str m],s=>need (l.length<4294967281) (some (.tup [.str (Lib.cut l m).1,.str (Lib.cut l m).2.1,.bool (Lib.cut l m).2.2],s))
 | _,_=>none
theorem q06 {W0:World} (hl:LaidAll W0) {xs:List AV} {s:List (List AV)} {r:AV} {s':List (List AV)} (e:cutT xs s=some (r,s')):ACalls prog W0.heap.size W0 33 xs s r s':=by
 unfold cutT at e
 split at e
 ·rename_i l m
  obtain⟨hn,e⟩:=qn e
  simp only[Option.some.injEq,Prod.mk.injEq] at e
  obtain⟨rfl,rfl⟩:=e
  refine qbq fun w a b ha hb hW=>?_
  subst ha hb
  obtain⟨k,hk⟩:=hl.max.below hW
  refine (Any.strings_Cut qhd a b k w (by simpa using hn) hk).mono ?_
  rintro e w' ⟨rfl,n,rfl⟩
  exact⟨_,rfl,told_ssb _ _ _,blw w n⟩
 ·cases e
noncomputable def splitT:List AV→List (List AV)→Option (AV×List (List AV))
 | [.str l,.str m],s=>need (l.length<4294967281∧1≤m.length) (some (.sl (.ex 9 1) ((Lib.split l m).map .str),s))
 | _,_=>none
theorem quw {W0:World} (hl:LaidAll W0) {xs:List AV} {s:List (List AV)} {r:AV} {s':List (List AV)} (e:splitT xs s=some (r,s')):ACalls prog W0.heap.size W0 191 xs s r s':=by
 unfold splitT at e
 split at e
 ·rename_i l m
  obtain⟨⟨hn,h1⟩,e⟩:=qn e
  simp only[Option.some.injEq,Prod.mk.injEq] at e
  obtain⟨rfl,rfl⟩:=e
  have hlen:(Lib.split l m).length=Lib.countB ⟨l.toArray⟩ ⟨m.toArray⟩+1:=by
   have e1:=Lib.splitB_all ⟨m.toArray⟩ (by rw[bsz];exact h1) 0 _ ⟨l.toArray⟩ rfl
   have e2:=Lib.splitB_data ⟨m.toArray⟩ 0 (Lib.countB ⟨l.toArray⟩ ⟨m.toArray⟩) ⟨l.toArray⟩
   rw[← e1,← List.length_map (f:=fun x:ByteArray=>x.data.toList),e2]
   rfl
  have hle:=Lib.countB_le ⟨m.toArray⟩ (by rw[bsz];exact h1) l.length ⟨l.toArray⟩ (by rw[bsz];omega)
  refine qlu (by rw[bsz] at hle;rw[hlen];unfold maxLen;omega) fun w vs hsz hW hr=>?_
  obtain⟨u,v,rfl⟩:=two_args (vs:=vs) hsz
  obtain⟨μ,h0⟩:=hr 0 (.str l) rfl
  obtain⟨μ',h1'⟩:=hr 1 (.str m) rfl
  obtain⟨a,rfl,rfl⟩:=qa5 (h0.resolve_right (by simp[isTup]))
  obtain⟨b,rfl,rfl⟩:=qa5 (h1'.resolve_right (by simp[isTup]))
  obtain⟨k,hk⟩:=hl.max.below hW
  refine (Any.strings_Split qhe (by kernel_rfl) a b k w (by simpa using hn) hk (by simpa using h1)).mono ?_
  rintro e w' ⟨rfl,rfl⟩
  have e2:=Lib.splitB_data b 0 (Lib.countB a b) a
  have e3:Lib.split a.data.toList b.data.toList=(Lib.splitB b 0 (Lib.countB a b) a).map (·.data.toList):=by rw[e2];rfl
  refine⟨by rw[hlen],?_⟩
  congr 2
  rw[e3,List.map_map]
  apply congrArg
  apply List.map_congr_left
  intro x _
  rfl
 ·cases e
noncomputable def cutPrefixT:List AV→List (List AV)→Option (AV×List (List AV))
 | [.str l,.str m],s=>some (.tup [.str (Lib.trimPrefix l m),.bool (Lib.hasPrefix l m)],s)
 | _,_=>none
theorem qkm {W0:World} {xs:List AV} {s:List (List AV)} {r:AV} {s':List (List AV)} (e:cutPrefixT xs s=some (r,s')):ACalls prog W0.heap.size W0 133 xs s r s':=by
 unfold cutPrefixT at e
 split at e
 ·simp only[Option.some.injEq,Prod.mk.injEq] at e
  obtain⟨rfl,rfl⟩:=e
  refine qbq fun w a b ha hb hW=>?_
  subst ha hb
  refine (Any.strings_CutPrefix qhf a b w).mono ?_
  rintro e w' ⟨rfl,rfl⟩
  exact⟨_,rfl,told_sb _ _,Below.refl _ _⟩
 ·cases e
noncomputable def hasPrefixT:List AV→List (List AV)→Option (AV×List (List AV))
 | [.str l,.str m],s=>some (.bool (Lib.hasPrefix l m),s)
 | _,_=>none
theorem hasPrefix_ok {W0:World} {xs:List AV} {s:List (List AV)} {r:AV} {s':List (List AV)} (e:hasPrefixT xs s=some (r,s')):ACalls prog W0.heap.size W0 190 xs s r s':=by
 unfold hasPrefixT at e
 split at e
 ·simp only[Option.some.injEq,Prod.mk.injEq] at e
  obtain⟨rfl,rfl⟩:=e
  refine qbq fun w a b ha hb hW=>?_
  subst ha hb
  refine (Any.strings_HasPrefix qiz a b w).mono ?_
  rintro e w' ⟨rfl,rfl⟩
  exact⟨_,rfl,AI.Told.bool _,Below.refl _ _⟩
 ·cases e
def asciiB (m:List UInt8):Bool:=m.all fun b=>decide (b.toNat<128)
noncomputable def trimT:List AV→List (List AV)→Option (AV×List (List AV))
 | [.str l,.str [c]],s=>need (l.length≤9223372036854775807∧c.toNat<128) (some (.str (Lib.trimB l c),s))
 | [.str l,.str m],s=>need (l.length≤9223372036854775807∧m.length<4294967281∧asciiB m=true) (some (.str (Lib.trimS l m),s))
 | _,_=>none
theorem trim_ok {W0:World} {xs:List AV} {s:List (List AV)} {r:AV} {s':List (List AV)} (e:trimT xs s=some (r,s')):ACalls prog W0.heap.size W0 113 xs s r s':=by
 unfold trimT at e
 split at e
 ·rename_i l c
  obtain⟨⟨hn,hc⟩,e⟩:=qn e
  simp only[Option.some.injEq,Prod.mk.injEq] at e
  obtain⟨rfl,rfl⟩:=e
  refine qbq fun w a b ha hb hW=>?_
  subst ha
  obtain rfl:b=⟨#[c]⟩:=by obtain⟨⟨b⟩⟩:=b;simp at hb;subst hb;rfl
  refine (Any.strings_Trim_one qdz a c hc w (by simpa using hn)).mono ?_
  rintro e w' ⟨rfl,hw⟩
  refine⟨_,rfl,AI.Told.str _,?_⟩
  rcases hw with rfl|rfl
  ·exact Below.refl _ _
  ·exact blw w 1
 ·rename_i l m hm
  obtain⟨⟨hn,hc,ha⟩,e⟩:=qn e
  simp only[Option.some.injEq,Prod.mk.injEq] at e
  obtain⟨rfl,rfl⟩:=e
  refine qbq fun w a b hx hb hW=>?_
  subst hx hb
  refine (Any.strings_Trim_laid qdz (by kernel_rfl) a b w (by simpa using hn) (by simpa using hc) (ascii_of_all ha)).mono ?_
  rintro e w' ⟨rfl,hw⟩
  exact⟨_,rfl,AI.Told.str _,hw⟩
 ·cases e
noncomputable def containsT:List AV→List (List AV)→Option (AV×List (List AV))
 | [.str l,.str m],s=>need (l.length<4294967281) (some (.bool (Lib.contains l m),s))
 | _,_=>none
theorem ql5 {W0:World} (hl:LaidAll W0) {xs:List AV} {s:List (List AV)} {r:AV} {s':List (List AV)} (e:containsT xs s=some (r,s')):ACalls prog W0.heap.size W0 140 xs s r s':=by
 unfold containsT at e
 split at e
 ·obtain⟨hn,e⟩:=qn e
  simp only[Option.some.injEq,Prod.mk.injEq] at e
  obtain⟨rfl,rfl⟩:=e
  refine qbq fun w a b ha hb hW=>?_
  subst ha hb
  obtain⟨k,hk⟩:=hl.max.below hW
  refine (Any.strings_Contains qhg a b k w (by simpa using hn) hk).mono ?_
  rintro e w' ⟨rfl,rfl⟩
  exact⟨_,rfl,AI.Told.bool _,Below.refl _ _⟩
 ·cases e
end Go.Proofs.Tryz.Ai
end
section
namespace Go.Proofs.Tryz.Ai
open Go Go.AI Go.RowKit Go.Proofs Go.MapKept
theorem qop {P:Program} {w:World} {t kt et:TypeId} {r c:Nat} {es:Array MapEntry} {k:ByteArray} {v:Value} (ht:P.underlying t=some (.map kt et)) (hk:P.underlying kt=some .string) (hb:w.heap[r]? = some (Obj.map es c))
  (hf:Instr.findNow .string (.string k) es.toList 0=some none):(Instr.mapUpdate t (.map (some r)) (.string k) v).run P w=.ok () {w with heap:=w.heap.setIfInBounds r (.map (es.push ⟨.string k,v,c⟩) (c+1))}:=by
 have hck:(Instr.checkKey false 10000 kt (.string k)).run P w=.ok () w:=run_checkKey hk (by simp[IsKey]) _ 9999
 simp only[Instr.mapUpdate,Sem.run_bind,run_underlying ht,Result.andThen_ok,MapKept.run_getObj_map hb,hck,run_findKey hk hf,run_setObj_map _ hb]
theorem qat {P:Program} {w:World} {t kt et:TypeId} {c:Nat} {es:Array MapEntry} {k:ByteArray} {v:Value} (ht:P.underlying t=some (.map kt et)) (hk:P.underlying kt=some .string)
  (hf:Instr.findNow .string (.string k) es.toList 0=some none):(Instr.mapUpdate t (.map (some w.heap.size)) (.string k) v).run P (w.alloc (.map es c))=.ok () (w.alloc (.map (es.push ⟨.string k,v,c⟩) (c+1))):=by
 rw[qop ht hk (heap_alloc w _).1 hf]
 congr 1
 simp only[World.alloc]
 congr 1
 apply Array.ext
 ·simp
 ·intro i h1 h2
  simp only[Array.size_setIfInBounds,Array.size_push] at h1
  rw[Array.getElem_setIfInBounds]
  by_cases hi:w.heap.size=i
  ·subst hi;simp
  ·rw[if_neg hi,Array.getElem_push_lt (by omega),Array.getElem_push_lt (by omega)]
  ·simp;omega
theorem ql6 {P:Program} {w:World} {t:TypeId}:(Instr.makeMap t none).run P w=.ok (.map (some w.heap.size)) (w.alloc (.map #[] 0)):=by
 simp[Instr.makeMap]
def stmN:List (List UInt8):=[[109,111,100,117,108,101],[103,111],[114,101,113,117,105,114,101],[101,120,99,108,117,100,101],[114,101,112,108,97,99,101],[114,101,116,114,97,99,116]]
def stmF:List FuncId:=[177,178,179,180,181,182]
def stmE (u:Value):Array MapEntry:=#[⟨.string ⟨#[109,111,100,117,108,101]⟩,.func (.func 177) #[u] #[],0⟩,⟨.string ⟨#[103,111]⟩,.func (.func 178) #[u] #[],1⟩,⟨.string ⟨#[114,101,113,117,105,114,101]⟩,.func (.func 179) #[u] #[],2⟩,⟨.string ⟨#[101,120,99,108,117,100,101]⟩,.func (.func 180) #[u] #[],3⟩,⟨.string ⟨#[114,101,112,108,97,99,101]⟩,.func (.func 181) #[u] #[],4⟩,⟨.string ⟨#[114,101,116,114,97,99,116]⟩,.func (.func 182) #[u] #[],5⟩]
set_option maxHeartbeats 2000000 in
set_option maxRecDepth 100000 in
theorem walk_statements (u:Value) (w:World) :
  Calls prog 116 #[u] w fun e w'=>e=.returned (.map (some w.heap.size))∧w'=w.alloc (.map (stmE u) 6):=by
 have hu:prog.underlying 184=some (.map 9 183):=by kernel_rfl
 have hk:prog.underlying 9=some .string:=by kernel_rfl
 go_enter func116,ntmps116
 go_wp2
 rw[ql6]
 simp only[Result.andThen]
 rw[Oper.upon_value]
 go_wp2
 rw[qat hu hk (by rfl)]
 simp only[Result.andThen]
 rw[Oper.upon_skip]
 go_wp2
 rw[qat hu hk (by rfl)]
 simp only[Result.andThen]
 rw[Oper.upon_skip]
 go_wp2
 rw[qat hu hk (by rfl)]
 simp only[Result.andThen]
 rw[Oper.upon_skip]
 go_wp2
 rw[qat hu hk (by rfl)]
 simp only[Result.andThen]
 rw[Oper.upon_skip]
 go_wp2
 rw[qat hu hk (by rfl)]
 simp only[Result.andThen]
 rw[Oper.upon_skip]
 go_wp2
 rw[qat hu hk (by rfl)]
 simp only[Result.andThen]
 rw[Oper.upon_skip]
 go_wp2
 go_ret
 exact⟨rfl,rfl⟩
noncomputable def statementsT:List AV→List (List AV)→Option (AV×List (List AV))
 | [.gp b i sh],s=>some (.mp stmN (stmF.map fun f=>.fb f [.gp b i sh]),s)
 | _,_=>none
theorem qi1 {W0:World} {xs:List AV} {s:List (List AV)} {r:AV} {s':List (List AV)} (e:statementsT xs s=some (r,s')):ACalls prog W0.heap.size W0 116 xs s r s':=by
 unfold statementsT at e
 split at e
 rotate_left
 ·cases e
 rename_i b i sh
 simp only[Option.some.injEq,Prod.mk.injEq] at e
 obtain⟨rfl,rfl⟩:=e
 intro T μ w vs hsz hW hs
 obtain⟨l⟩:=vs
 match l,hsz with
 | [u],_ =>
  have hru:Rep W0.heap.size μ w u (.gp b i sh):=(hs.tmp 0 (.gp b i sh) (by simp[params,look])).1
  refine (walk_statements u w).mono fun e w' hx=>?_
  obtain⟨rfl,rfl⟩:=hx
  have k1:=hs.alloc (.map (stmE u) 6)
  have x:=qbs (μ:=μ) (w:=w) hs.hB (.map (stmE u) 6)
  have hrep:Rep W0.heap.size μ (w.alloc (.map (stmE u) 6)) (.map (some w.heap.size)) (.mp stmN (stmF.map fun f=>.fb f [.gp b i sh])):=by
   refine .mp _ 6 (stmE u) _ _ (fun j=>.func (.func (stmF.getD j 0)) #[u] #[]) (heap_alloc w _).1 rfl rfl (fun j k hk=>?_) (fun c hc=>?_) (fun j c hc=>?_)
   ·match j,hk with
    | 0,hk=>injection hk with hk;subst hk;exact⟨0,rfl⟩
    | 1,hk=>injection hk with hk;subst hk;exact⟨1,rfl⟩
    | 2,hk=>injection hk with hk;subst hk;exact⟨2,rfl⟩
    | 3,hk=>injection hk with hk;subst hk;exact⟨3,rfl⟩
    | 4,hk=>injection hk with hk;subst hk;exact⟨4,rfl⟩
    | 5,hk=>injection hk with hk;subst hk;exact⟨5,rfl⟩
    | j+6,hk=>simp[stmN] at hk
   ·obtain⟨f,_,rfl⟩:=List.mem_map.1 hc;rfl
   ·rw[List.getElem?_map] at hc
    cases hf:stmF[j]? with
    | none=>rw[hf] at hc;cases hc
    | some f =>
     rw[hf] at hc
     simp only[Option.map_some,Option.some.injEq] at hc
     subst hc
     have:stmF.getD j 0=f:=by simp[List.getD_eq_getElem?_getD,hf]
     rw[this]
     refine .fb f #[u] _ rfl (fun c hc=>?_) (fun q c hc=>?_)
     ·simp at hc;subst hc;exact⟨rfl,rfl⟩
     ·cases q with
      | zero=>simp at hc;subst hc;exact hru.mono x
      | succ q=>simp at hc
  exact⟨_,μ,rfl,k1.out (.mk' ⟨hrep,trivial⟩ fun j=>by cases j<;>rfl) (by simp) hs.mdf⟩
end Go.Proofs.Tryz.Ai
end
