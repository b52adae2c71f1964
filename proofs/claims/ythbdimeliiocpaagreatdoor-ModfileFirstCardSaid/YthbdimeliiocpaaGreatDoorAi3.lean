/- Part 3 of a proof: a Go function is evaluated on abstract values (texts AiSimp2 .. AiArg2); no conditions beyond those of each theorem. -/
import Derived.Test.YthbdimeliiocpaaGreatDoorAi2
import Derived.Lib.UnsafeStr
import Derived.Lib.Bytealg
import GoSem.Op.String
import Derived.Lib.ItoaNum
import Derived.Lib.LastIndexLaws
import Derived.Lib.Split
import Derived.Lib.CountLaws
import Derived.Lib.AtoiAllCases
import Derived.OpenShut
import Derived.Carry
import Derived.Deep.Slices
import Derived.ChangeOld
import Derived.Lib.LaidTab
import Derived.ChangeSame
import Derived.Deep.Strs
import Derived.Lib.SmallJoins
set_option linter.all false
set_option linter.unusedVariables false
set_option linter.unusedSimpArgs false
set_option linter.unnecessarySimpa false
section
namespace Go.AI
set_option linter.unusedVariables false
section
variable {P:Program} {h:Hint} {C:Oracle} {st:St} {d:Option Tmp} {n:Nat} {T:TypeId} {pos:String} {af:Array Edge} {g:Option (Nat×Bool)}
@[simp] theorem qx8 {n:Nat}:isMs h (some n)=mem h.msd n:=nrfl rfl
@[simp] theorem qx9:isMs h none=false:=nrfl rfl
@[simp] theorem qu8 {n:Nat}:isGlob h (some n)=mem h.glob n:=nrfl rfl
@[simp] theorem qu9:isGlob h none=false:=nrfl rfl
attribute [simp] conv readCells fieldAddrA indexAddrA indexA sliceA appendA srcA
attribute [simp] msOp msLoad msSlice rootT msConv msAppend msCopy srcM vary
attribute [simp] endA freezeT freezeL freeze1 freezeC weakT weak isNilS isNilP isCst
@[simp] theorem flat_nil:flat []=[]:=nrfl rfl
@[simp] theorem flat_cons {x:AV} {r:List AV}:flat (x::r)=x.cells++flat r:=nrfl rfl
theorem flat_map {α:Type} (f:α→AV) (hf:∀x,(f x).cells=[f x]) (l:List α):flat (l.map f)=l.map f:=by
 induction l with
 | nil=>rfl
 | cons x r ih=>rw[List.map_cons,flat_cons,hf,ih];rfl
@[simp] theorem flat_u8 {l:List UInt8}:flat (l.map .u8)=l.map .u8:=flat_map _ (fun _=>rfl) l
@[simp] theorem flat_str {l:List (List UInt8)}:flat (l.map .str)=l.map .str:=flat_map _ (fun _=>rfl) l
@[simp] theorem flat_int {k:IntKind} {l:List Int}:flat (l.map (.int k))=l.map (.int k):=flat_map _ (fun _=>rfl) l
@[simp] theorem flat_rep_int {k:IntKind} {m:Int} {n:Nat}:flat (List.replicate n (.int k m))=List.replicate n (.int k m):=by
 induction n with
 | zero=>rfl
 | succ n ih=>rw[List.replicate_succ,flat_cons,ih];rfl
@[simp] theorem flat_rep_str {m:List UInt8} {n:Nat}:flat (List.replicate n (.str m))=List.replicate n (.str m):=by
 induction n with
 | zero=>rfl
 | succ n ih=>rw[List.replicate_succ,flat_cons,ih];rfl
theorem qj5 {α:Type} (f:α→AV) (hf:∀x,dem (f x)=f x) (l:List α):(l.map f).map dem=l.map f:=by
 rw[List.map_map];exact List.map_congr_left fun x _=>hf x
@[simp high] theorem qw9 {l:List UInt8}:(l.map AV.u8).map dem=l.map .u8:=qj5 _ (fun _=>rfl) l
@[simp high] theorem qva {l:List (List UInt8)}:(l.map AV.str).map dem=l.map .str:=qj5 _ (fun _=>rfl) l
@[simp high] theorem qvb {k:IntKind} {l:List Int}:(l.map (AV.int k)).map dem=l.map (.int k):=qj5 _ (fun _=>rfl) l
def els2 (g:Bool) (m sz:Nat) (cs:List AV) (off n:Nat):Option (List AV):=if m=sz∧0<sz∧(g=true∨sz=1)∧off+n*sz≤cs.length then
  some ((List.range n).map fun i=>elt g (((cs.drop (off+i*sz)).take sz).map dem)) else none
@[simp] theorem qtu {ty sz:Nat} {cs:List AV} {off n:Nat}:readEls P ty sz cs off n=bnd (isAggA P ty) fun g=>bnd (sizeA P ty) fun m=>els2 g m sz cs off n:=nrfl rfl
@[simp] theorem els2_one {cs:List AV} {off n:Nat}:els2 false 1 1 cs off n=if off+n≤cs.length then some (((cs.drop off).take n).map dem) else none:=by
 unfold els2
 by_cases hc:off+n≤cs.length
 ·rw[if_pos hc,if_pos (by simp;omega)]
  congr 1
  apply List.ext_getElem?
  intro i
  simp only[List.getElem?_map]
  by_cases hi:i<n
  ·rw[List.getElem?_range hi,List.getElem?_take,if_pos hi,List.getElem?_drop]
   have hlt:off+i*1<cs.length:=by omega
   rw[Option.map_some,List.drop_eq_getElem_cons hlt,List.getElem?_eq_getElem (by omega)]
   simp only[Nat.mul_one,List.take_succ_cons,List.take_zero,List.map_cons,List.map_nil,elt,Option.map_some]
  ·rw[List.getElem?_eq_none (by simpa using Nat.le_of_not_lt hi),List.getElem?_eq_none (by simp;omega)];rfl
 ·rw[if_neg hc,if_neg (by simp;omega)]
@[simp] theorem qle {m sz:Nat} {cs:List AV} {off n:Nat}:els2 true m sz cs off n=if m=sz∧0<sz∧off+n*sz≤cs.length then some ((List.range n).map fun i=>.agg (((cs.drop (off+i*sz)).take sz).map dem)) else none:=by
 unfold els2
 simp only[true_or,true_and]
 rfl
section
variable {sz:Nat} {a b:List AV} {x:AV}
@[simp] theorem qtv:allCells sz []↔True:=⟨fun _=>trivial,fun _ x hx=>by cases hx⟩
@[simp] theorem qr4:allCells sz (x::a)↔(x.cells.length=sz∧∀c∈x.cells,plain c=true)∧allCells sz a:=by
 simp only[allCells,List.forall_mem_cons]
@[simp] theorem qtw:allCells sz (a++b)↔allCells sz a∧allCells sz b:=by simp only[allCells,List.forall_mem_append]
@[simp] theorem qvc {l:List UInt8}:allCells 1 (l.map .u8)↔True:=⟨fun _=>trivial,fun _ x hx=>by
 obtain⟨b,_,rfl⟩:=List.mem_map.1 hx;exact⟨rfl,fun c hc=>by simp[AV.u8,AV.cells] at hc;subst hc;rfl⟩⟩
@[simp] theorem qtx {l:List (List UInt8)}:allCells 1 (l.map .str)↔True:=⟨fun _=>trivial,fun _ x hx=>by
 obtain⟨b,_,rfl⟩:=List.mem_map.1 hx;exact⟨rfl,fun c hc=>by simp[AV.cells] at hc;subst hc;rfl⟩⟩
@[simp] theorem qty {k:IntKind} {l:List Int}:allCells 1 (l.map (.int k))↔True:=⟨fun _=>trivial,fun _ x hx=>by
 obtain⟨b,_,rfl⟩:=List.mem_map.1 hx;exact⟨rfl,fun c hc=>by simp[AV.cells] at hc;subst hc;rfl⟩⟩
@[simp] theorem qtz {l:List (List UInt8)}:allCells 1 (l.map fun s=>.sl .sh (s.map .u8))↔True:=⟨fun _=>trivial,fun _ x hx=>by
 obtain⟨b,_,rfl⟩:=List.mem_map.1 hx;exact⟨rfl,fun c hc=>by simp[AV.cells] at hc;subst hc;rfl⟩⟩
end
attribute [simp] AV.u8 plain qan quiet
section
variable {σ l:List (List AV)} {c x:List AV} {k:Nat}
@[simp] theorem app_get0:(σ++c::l)[σ.length]? = some c:=by simp
@[simp] theorem app_getk:(σ++l)[σ.length+k]? = l[k]?:=by rw[List.getElem?_append_right (by omega)];congr 1;omega
@[simp] theorem app_set0:(σ++c::l).set σ.length x=σ++x::l:=by simp
@[simp] theorem app_setk:(σ++l).set (σ.length+k) x=σ++l.set k x:=by rw[List.set_append_right _ _ (by omega)];congr 2;omega
@[simp] theorem lowS_app:lowS σ (σ++l)↔True:=⟨fun _=>trivial,fun _ b hb=>.inl (by rw[List.getElem?_append_left hb])⟩
@[simp] theorem qya:lowS σ σ↔True:=⟨fun _=>trivial,fun _ b hb=>.inl rfl⟩
@[simp] theorem take_app:(σ++l).take σ.length=σ:=by simp
@[simp] theorem take_self:σ.take σ.length=σ:=by simp
theorem qew {b:Nat} (hx:lowL σ.length x):lowS σ (σ.set b x):=by
 intro b' hb
 by_cases q:b=b'
 ·subst q;exact .inr ⟨x,by simp[hb],hx⟩
 ·exact .inl (by rw[List.getElem?_set,if_neg q])
@[simp] theorem take_set {b:Nat}:(σ.set b x).take σ.length=σ.set b x:=by rw[List.take_of_length_le (by simp)]
@[simp] theorem take_set_app {b:Nat}:(σ.set b x++l).take σ.length=σ.set b x:=by
 rw[show σ.length=(σ.set b x).length by simp];exact List.take_left
end
section
variable {n m:Nat}
@[simp] theorem low_gp {b i sh}:low n (.gp b i sh)↔b<n:=Iff.rfl
@[simp] theorem low_ms {a1 a2 a3 a4 a5}:low n (.ms a1 a2 a3 a4 a5)↔a3<n:=Iff.rfl
@[simp] theorem low_sl {o xs}:low n (.sl o xs)↔lowL n xs:=Iff.rfl
@[simp] theorem low_agg {xs}:low n (.agg xs)↔lowL n xs:=Iff.rfl
@[simp] theorem low_tup {xs}:low n (.tup xs)↔lowL n xs:=Iff.rfl
@[simp] theorem low_vp {xs i}:low n (.vp xs i)↔lowL n xs:=Iff.rfl
@[simp] theorem low_fn {f xs}:low n (.fn f xs)↔lowL n xs:=Iff.rfl
@[simp] theorem low_fb {f xs}:low n (.fb f xs)↔lowL n xs:=Iff.rfl
@[simp] theorem low_ifc {t v}:low n (.ifc t v)↔low n v:=Iff.rfl
@[simp] theorem low_int {k v}:low n (.int k v)↔True:=Iff.rfl
@[simp] theorem low_bool {v}:low n (.bool v)↔True:=Iff.rfl
@[simp] theorem low_str {v}:low n (.str v)↔True:=Iff.rfl
@[simp] theorem low_u8 {v}:low n (.u8 v)↔True:=Iff.rfl
@[simp] theorem low_nilp:low n .nilp↔True:=Iff.rfl
@[simp] theorem low_nilf:low n .nilf↔True:=Iff.rfl
@[simp] theorem low_nili:low n .nili↔True:=Iff.rfl
@[simp] theorem low_ifx:low n .ifx↔True:=Iff.rfl
@[simp] theorem low_any:low n .any↔True:=Iff.rfl
@[simp] theorem lowL_nil:lowL n []↔True:=Iff.rfl
@[simp] theorem qfm {x r}:lowL n (x::r)↔low n x∧lowL n r:=Iff.rfl
@[simp] theorem qj6 {a b:List AV}:lowL n (a++b)↔lowL n a∧lowL n b:=by
 induction a with
 | nil=>simp
 | cons x r ih=>simp only[List.cons_append,qfm,ih,and_assoc]
@[simp] theorem lowL_map {α:Type} {f:α→AV} {l:List α}:lowL n (l.map f)↔∀x∈l,low n (f x):=by
 induction l with
 | nil=>simp
 | cons x r ih=>simp only[List.map_cons,qfm,ih,List.forall_mem_cons]
@[simp] theorem qqq {x:AV}:lowL n (List.replicate m x)↔m=0∨low n x:=by
 induction m with
 | zero=>simp
 | succ m ih=>rw[List.replicate_succ,qfm,ih];simp;intro hx;exact .inr hx
end
attribute [simp] eqCs eqSc
end
theorem dT {p:Prop} [Decidable p] (h:p):decide p=true:=decide_eq_true h
theorem dF {p:Prop} [Decidable p] (h:¬p):decide p=false:=decide_eq_false h
section
variable {P:Program} {h:Hint} {C:Oracle} {st:St}
end
end Go.AI
end
section
namespace Go.AI
open Go.RowKit
set_option linter.unusedVariables false
def gh0:Gh:={fr:=fun _=>0,bx:=fun _=>none}
theorem Sim.start {w:World} {as:List AV} {vs:Array Value} (hsz:vs.size=as.length)
  (hv:∀(j:Nat) (c:AV),as[j]? = some c→Rep w.heap.size gh0 w (vs.getD j undef) c∧pers c=true∧quiet c=true) :
  Sim w.heap.size (fun _=>False) gh0 w vs.size gh0 (fun _=>none) ⟨vs,[]⟩ w ⟨params 0 as,[],[]⟩:=by
 have hlook:∀i v,look (params 0 as) i=some v→as[i]? = some v:=fun i v e=>by rw[qbs] at e;simpa using e
 have hno:∀l k,own ⟨vs,[]⟩ (fun _=>none) gh0 w ⟨params 0 as,[],[]⟩ l≠some k:=by
  intro l k e
  cases l with
  | t i j =>
   simp only[own] at e
   cases hq:look (params 0 as) i with
   | none=>rw[hq] at e;cases e
   | some v =>
    rw[hq] at e
    have:=hv i v (hlook i v hq)
    cases j with
    | none=>simp only[Option.bind_some,ownV] at e;rw[qt this.2.2] at e;cases e
    | some j=>cases v<;>first|(simp[ownV] at e;done)|simp[pers] at this
  | l d=>simp[own,look] at e
  | lc d j=>simp[own,look,ownB] at e
  | g b=>simp[own] at e
  | gc b j=>simp[own,ownB] at e
 constructor
 ·rfl
 ·rfl
 ·exact Ext.refl _ _ _ _
 ·intro i v e
  have:=hv i v (hlook i v e)
  have ht:Tk1 w.heap.size gh0 w (vs.getD i undef) v:=qaq this.2.2
  cases v with
  | lp d i=>simp[pers] at this
  | tup xs=>simp[pers] at this
  | _=>exact⟨this.1,ht⟩
 ·intro d cs e;simp[look] at e
 ·intro b cs blk e;simp at e
 ·intro b _;rfl
 ·intro l l' k e;exact absurd e (hno l k)
 ·intro l k e;exact absurd e (hno l k)
 ·intro b _;rfl
 ·exact Nat.le_refl _
 ·rw[qfe];exact List.nodup_range'
 ·intro b hb;simp at hb
 ·rfl
theorem top {P:Program} (hm:P.follows .mixedOrders=true) {H:FuncId→Hint} {T:Table} {f:FuncId} {as:List AV} {vs:Array Value} {w:World} {b:Bool} {s':List (List AV)} (hfb:AI.base f=f) (hT:TableOk P w.heap.size w T)
  (hsz:vs.size=as.length) (hv:∀(j:Nat) (c:AV),as[j]? = some c→Rep w.heap.size gh0 w (vs.getD j undef) c∧pers c=true∧quiet c=true)
  (e:EV P H T f as []=some (.bool b,s')):Calls P f vs w fun e w'=>e=.returned (.bool b)∧Below w.heap.size w w':=by
 obtain⟨_,h⟩:=qhe hT (fun _ _=>qaj hm) _ _ _ _ _ e
 rw[hfb] at h
 refine (h (fun _=>False) gh0 w vs hsz (Below.refl _ _) (Sim.start hsz hv)).mono fun e w' hr=>?_
 obtain⟨v,μ',rfl,hs⟩:=hr
 refine⟨?_,hs.ext.below⟩
 have:=(hs.tmp 0 (.bool b) (by simp[look])).1
 generalize hq:(⟨#[v],[]⟩:Act).tmps.getD 0 undef=u at this
 have hu:u=v:=by rw[← hq];rfl
 subst hu
 cases this
 rfl
end Go.AI
end
section
namespace Go.AI
open Go.RowKit
set_option linter.unusedVariables false
theorem belowHeap {n:Nat} {w w':World} (h:Below n w w') {b:Nat} (hb:b<n):w'.heap[b]? = w.heap[b]?:=h.block b hb
structure Told (v:Value) (r:AV):Prop where
 full:∀(B:Nat) (μ:Gh) (w:World),Full B μ (fun _=>none) w v r
 own:∀j,ownV v r j=none
 nl:∀d i,r≠.lp d i
theorem Told.int (k:IntKind) (n:Int):Told (.int k n) (.int k n):=⟨fun _ _ _=>⟨.int _ _,trivial⟩,fun j=>by cases j<;>rfl,by simp⟩
theorem Told.bool (b:Bool):Told (.bool b) (.bool b):=⟨fun _ _ _=>⟨.bool _,trivial⟩,fun j=>by cases j<;>rfl,by simp⟩
theorem Told.str (l:List UInt8):Told (.string ⟨l.toArray⟩) (.str l):=⟨fun _ _ _=>⟨by have:=Rep.str (B:=‹_›) (μ:=‹_›) (w:=‹_›) ⟨l.toArray⟩;simpa using this,trivial⟩,fun j=>by cases j<;>rfl,by simp⟩
theorem Told.intErr (n:Int) (t:TypeId) (p:Value):Told (.tuple #[.int .i64 n,.iface t p]) (.tup [.int .i64 n,.ifx]) :=
 ⟨fun B μ w=>⟨.tup _ _ rfl fun j c hc=>by
   match j,hc with
   | 0,hc=>simp at hc;subst hc;exact .int _ _
   | 1,hc=>simp at hc;subst hc;exact .ifx _ _
   | j+2,hc=>simp at hc,fun j c hc=>by
   match j,hc with
   | 0,hc=>simp at hc;subst hc;trivial
   | 1,hc=>simp at hc;subst hc;trivial
   | j+2,hc=>simp at hc⟩,fun j=>by
   match j with
   | none=>rfl
   | some 0=>rfl
   | some 1=>rfl
   | some (j+2)=>rfl,by simp⟩
theorem Told.intNil (n:Int):Told (.tuple #[.int .i64 n,.nilIface]) (.tup [.int .i64 n,.nili]) :=
 ⟨fun B μ w=>⟨.tup _ _ rfl fun j c hc=>by
   match j,hc with
   | 0,hc=>simp at hc;subst hc;exact .int _ _
   | 1,hc=>simp at hc;subst hc;exact .nili
   | j+2,hc=>simp at hc,fun j c hc=>by
   match j,hc with
   | 0,hc=>simp at hc;subst hc;trivial
   | 1,hc=>simp at hc;subst hc;trivial
   | j+2,hc=>simp at hc⟩,fun j=>by
   match j with
   | none=>rfl
   | some 0=>rfl
   | some 1=>rfl
   | some (j+2)=>rfl,by simp⟩
theorem qc6 {P:Program} {B:Nat} {W0:World} {f:FuncId} {as:List AV} {s:List (List AV)} {r:AV}
  (h:∀(w:World) (vs:Array Value),vs.size=as.length→Below B W0 w→(∀(j:Nat) (c:AV),as[j]? = some c→∃(μ:Gh),Rep B μ w (vs.getD j undef) c∨isTup c=true∨∃d i,c=.lp d i) →
   Calls P f vs w fun e w'=>∃v,e=.returned v∧Told v r∧Below w.heap.size w w'):ACalls P B W0 f as s r s:=by
 intro T μ w vs hsz hW hs
 have hlook:∀i v,as[i]? = some v→look (params 0 as) i=some v:=fun i v e=>by rw[qbs];simpa using e
 refine (h w vs hsz hW fun j c hc=>⟨μ,?_⟩).mono fun e w' hx=>?_
 ·have:=hs.tmp j c (hlook j c hc)
  cases c with
  | lp d i=>exact .inr (.inr ⟨_,_,rfl⟩)
  | _=>exact .inl this.1
 ·obtain⟨v,rfl,ht,hb⟩:=hx
  have hlt:∀b s,w.shape? b=some s→b<w.heap.size:=fun b s e=>by
   rcases Nat.lt_or_ge b w.heap.size with q|q
   ·exact q
   ·simp[World.shape?,Array.getElem?_eq_none q] at e
  have x:Ext B (fun _=>False) μ w μ w' :=
   ⟨hb.mono hs.hB,fun b hb' _=>⟨belowHeap hb hb',rfl⟩,fun b j hb' _=>qbp (belowHeap hb hb'),fun b _=>Nat.le_refl _,fun b k e=>e,
    fun b s e=>by simpa[World.shape?,belowHeap hb (hlt b s e)] using e,fun r es c e=>by rw[belowHeap hb (Array.getElem?_eq_some_iff.1 e).1];exact e,fun h=>h⟩
  have hsz':=hb.size
  obtain⟨k1,k2⟩:=hs.grow x (fun _ _ _ h=>h) (fun _ _ h=>h.elim) (fun b hb=>hs.gdom b hb) (fun b hb'=>hs.fr0 b (by omega)) (fun b _=>rfl)
  exact⟨v,μ,rfl,k1.out (.mk' (by have:=ht.full B μ w';exact this) ht.own) ht.nl⟩
theorem qj7 {P:Program} {B:Nat} {W0:World} {f:FuncId} {as:List AV} {s:List (List AV)} {xs:List (List UInt8)} {t:TypeId} (hx:xs.length≤maxLen)
  (h:∀(w:World) (vs:Array Value),vs.size=as.length→Below B W0 w→(∀(j:Nat) (c:AV),as[j]? = some c→∃(μ:Gh),Rep B μ w (vs.getD j undef) c∨isTup c=true∨∃d i,c=.lp d i) →
   Calls P f vs w fun e w'=>e=.returned (.slice (some ⟨w.heap.size,0,none⟩) xs.length xs.length)∧w'=w.alloc (.cells (xs.map fun l=>Value.string ⟨l.toArray⟩).toArray t)):ACalls P B W0 f as s (.sl (.ex t 1) (xs.map .str)) s:=by
 intro T μ w vs hsz hW hs
 have hlook:∀i v,as[i]? = some v→look (params 0 as) i=some v:=fun i v e=>by rw[qbs];simpa using e
 refine (h w vs hsz hW fun j c hc=>⟨μ,?_⟩).mono fun e w' hx'=>?_
 ·have:=hs.tmp j c (hlook j c hc)
  cases c with
  | lp d i=>exact .inr (.inr ⟨_,_,rfl⟩)
  | _=>exact .inl this.1
 ·obtain⟨rfl,rfl⟩:=hx'
  obtain⟨k1,k2⟩:=hs.fresh (vs:=(xs.map fun l=>Value.string ⟨l.toArray⟩).toArray) (ty:=t) (els:=xs.map .str) (sz:=1) (cap:=xs.length) (by omega) (by simp) hx (by simp)
   (fun y hy=>by obtain⟨b,_,rfl⟩:=List.mem_map.1 hy;exact⟨rfl,fun c hc=>by simp[AV.cells] at hc;subst hc;rfl⟩)
   (fun i j c hc=>by
    rw[List.getElem?_map] at hc
    cases hi:xs[i]? with
    | none=>rw[hi] at hc;cases hc
    | some l =>
     rw[hi] at hc
     simp only[Option.map_some,Option.bind_some,AV.cells] at hc
     cases j with
     | zero =>
      simp only[List.getElem?_cons_zero,Option.some.injEq] at hc
      subst hc
      have hv:((xs.map fun l=>Value.string ⟨l.toArray⟩).toArray).getD (i*1+0) undef=.string ⟨l.toArray⟩:=by
       simp only[Nat.mul_one,Nat.add_zero,Array.getD_eq_getD_getElem?,List.getElem?_toArray,List.getElem?_map,hi];rfl
      rw[hv]
      have:=Rep.str (B:=B) (μ:=μ) (w:=w) ⟨l.toArray⟩
      simpa using this
     | succ j=>simp at hc)
  refine⟨_,_,rfl,k1.out ?_ (by simp)⟩
  simpa using k2
end Go.AI
end
section
namespace Go.AI
set_option linter.unusedVariables false
section
variable {P:Program} {h:Hint} {C:Oracle}
def PostD (x:Option St) (K:St→Prop):Prop:=∃s,x=some s∧K s
theorem qr5 {ds:List Nat} {ops r:List Oper} {st:St} {o:Oper} {K:St→Prop} (st1:St) (hw:wantedA ops o.guard st=some true) (hp:preD h o st=true) (hs:stepOp P h C o st=some st1)
  (hS:allowS h o=true∨st1.s=st.s) (hq:postD h ds o st1.t=true) (k:PostD (runD P h C ds ops r st1) K) (hA:adS h o=true→st1.s.take st.s.length=st.s:=by first|exact fun hh=>Bool.noConfusion hh|(intro _;simp)):PostD (runD P h C ds ops (o::r) st) K:=by
 rw[runD,hw,qlc,if_pos hp,hs,q7,need,if_pos ⟨hS,hA⟩,if_pos hq];exact k
theorem qbl {ds:List Nat} {ops r:List Oper} {st:St} {o:Oper} {K:St→Prop} (hw:wantedA ops o.guard st=some false) (hq:okAll ds st.t (tkT h o).toList=true)
  (k:PostD (runD P h C ds ops r (st.put o.dst (.tup []))) K):PostD (runD P h C ds ops (o::r) st) K:=by
 rw[runD,hw,qi2,if_pos hq];exact k
theorem qc {ds:List Nat} {ops:List Oper} {st:St} {K:St→Prop} (k:K st):PostD (runD P h C ds ops [] st) K:=⟨st,by rw[runD],k⟩
theorem qoi {ops:List Oper} {st:St} {F:St→St} {K:Ex→St→Prop} (ds:List Nat) (st0:St) (e:allocDs ops=ds) (e0:startD ds st=st0)
  (k:PostD (runD P h C ds ops ops st0) fun s=>K .normal (F s)):Post (bnd (regionA P h C ops true st) fun st=>some (Ex.normal,F st)) K:=by
 obtain⟨s,h1,h2⟩:=k
 rw[regionA,if_pos rfl,e,e0,h1];exact⟨_,_,rfl,h2⟩
theorem qe {ds:List Nat} {ops r:List Oper} {st:St} {o:Oper} {K:St→Prop} (st1:St) (hw:wantedA ops o.guard st=some true:=by rfl) (hp:preD h o st=true:=by rfl) (hs:stepOp P h C o st=some st1)
  (hS:allowS h o=true∨st1.s=st.s:=by first|exact .inl rfl|exact .inr rfl) (hq:postD h ds o st1.t=true:=by rfl) (k:PostD (runD P h C ds ops r st1) K) (hA:adS h o=true→st1.s.take st.s.length=st.s:=by first|exact fun hh=>Bool.noConfusion hh|(intro _;simp)):PostD (runD P h C ds ops (o::r) st) K :=
 qr5 st1 hw hp hs hS hq k hA
theorem qf {ds:List Nat} {ops r:List Oper} {st:St} {o:Oper} {K:St→Prop} (st1:St) (hw:wantedA ops o.guard st=some false:=by rfl) (hq:okAll ds st.t (tkT h o).toList=true:=by rfl)
  (hs:st.put o.dst (.tup [])=st1:=by simp (maxSteps:=4000000);exact rfl) (k:PostD (runD P h C ds ops r st1) K):PostD (runD P h C ds ops (o::r) st) K:=qbl hw hq (by rw[hs];exact k)
theorem qg {ops:List Oper} {st:St} {F:St→St} {K:Ex→St→Prop} (ds:List Nat) (st0:St) (e:allocDs ops=ds:=by rfl) (e0:startD ds st=st0:=by simp (maxSteps:=4000000);exact rfl)
  (k:PostD (runD P h C ds ops ops st0) fun s=>K .normal (F s)):Post (bnd (regionA P h C ops true st) fun st=>some (Ex.normal,F st)) K:=qoi ds st0 e e0 k
end
end Go.AI
end
section
namespace Go.AI
open Go.RowKit
set_option linter.unusedVariables false
section
variable {P:Program} {B:Nat} {T0:Nat→Prop} {μ0:Gh} {w0:World} {N:Nat} {μ:Gh} {lx:Nat→Option Nat} {a:Act} {w:World} {st:St}
theorem Sim.gp_open {i b off:Nat} {sh:Option (TypeId×Nat)} {cs:List AV} (h:Sim B T0 μ0 w0 N μ lx a w st) (hi:look st.t i=some (.gp b off sh)) (hb:st.s[b]? = some cs) (hne:cs≠[]) :
  ∃blk cur ty,a.tmps.getD i undef=.pointer (some ⟨blk,off,none⟩)∧μ.bx b=some blk∧Blk w blk cur ty∧cs.length≤cur.size∧μ.fr blk=0 ∧
   (∀(j:Nat) (c:AV),cs[j]? = some c→qan c=true∧Rep B μ w (cur.getD j undef) c∧Tk1 B μ w (cur.getD j undef) c)∧(∀s,sh=some s→(ty,cur.size)=s):=by
 have hf:=h.tmp i _ hi
 have hr:=hf.1
 generalize hv:a.tmps.getD i undef=v at hr
 cases hr with
 | gp _ _ blk _ hq hs =>
  obtain⟨cur,ty,g1,g2,g3,g4⟩:=h.glb b cs blk hb hq hne
  exact⟨blk,cur,ty,rfl,hq,g1,g2,g3,g4,fun s e=>by have:=hs s e;rw[g1.shape] at this;injection this⟩
theorem Sim.setGlobCell {b blk j:Nat} {cs:List AV} {vs:Array Value} {ty:TypeId} {v:Value} {c:AV} (h:Sim B T0 μ0 w0 N μ lx a w st) (hl:st.s[b]? = some cs) (hb:μ.bx b=some blk)
  (hh:Blk w blk vs ty) (hj:j<cs.length) (r:Res B T0 w0 μ lx a w st v c) (hc:qan c=true) :
  Sim B T0 μ0 w0 N μ lx a (w.setCell ⟨blk,j,none⟩ v) {st with s:=st.s.set b (cs.set j c)}:=by
 have hne:cs≠[]:=fun e=>by subst e;simp at hj
 obtain⟨vs0,ty0,g1,g2,g3,g4⟩:=h.glb b cs blk hl hb hne
 obtain⟨fz,hh',hok⟩:=hh
 obtain⟨rfl,rfl⟩:vs0=vs∧ty0=ty:=by
  obtain⟨fz1,g1,_⟩:=g1
  rw[hh'] at g1;injection g1 with g1;injection g1 with e1 e2;exact⟨e1.symm,e2.symm⟩
 have hh:Blk w blk vs0 ty0:=⟨fz,hh',hok⟩
 have hjv:j<vs0.size:=Nat.lt_of_lt_of_le hj g2
 have hrep:Rep B μ w v c:=r.full.rep fun d i e=>by subst e;cases hc
 have htk:Tk1 B μ w v c:=by
  have:=r.full
  cases c with
  | lp d i=>cases hc
  | tup xs=>cases hc
  | _=>exact this.2
 rw[setCell_eq_setRow w blk j vs0 ty0 fz v hh']
 have hget:∀j',(vs0.setIfInBounds j v).getD j' undef=if j'=j then v else vs0.getD j' undef:=by
  intro j'
  simp only[Array.getD_eq_getD_getElem?,Array.getElem?_setIfInBounds]
  by_cases e:j'=j
  ·subst e;simp[hjv]
  ·rw[if_neg (fun q=>e q.symm),if_neg e]
 have hcs:∀(j':Nat) (c':AV),(cs.set j c)[j']? = some c'→(j'=j∧c'=c)∨(j'≠j∧cs[j']? = some c'):=by
  intro j' c' e
  rw[List.getElem?_set] at e
  by_cases q:j=j'
  ·subst q;simp[hj] at e;exact .inl ⟨rfl,e.symm⟩
  ·rw[if_neg q] at e;exact .inr ⟨fun e=>q e.symm,e⟩
 have oldown:∀(j' k:Nat) (c':AV),cs[j']? = some c'→exBlk (vs0.getD j' undef) c'=some k→own a lx μ w st (.gc b j')=some k:=by
  intro j' k c' hc e
  have hj':j'<vs0.size:=Nat.lt_of_lt_of_le (List.getElem?_eq_some_iff.1 hc).1 g2
  have hq:vs0[j']? = some (vs0.getD j' undef):=by simp[Array.getD_eq_getD_getElem?,hj']
  simp only[own,ownB,hl,hb,Option.bind_some,hc,qae hh,hq]
  exact e
 refine h.setGlob (vs:=vs0) (ty:=ty0) hl hne hb hh g3 (by simp) (by simpa using g2) (fun j' c' e=>?_) (fun j' k c' e x=>?_) (fun j' j'' k c' c'' e e' x x'=>?_)
 ·rw[hget]
  rcases hcs j' c' e with ⟨rfl,rfl⟩|⟨q,e⟩
  ·rw[if_pos rfl];exact⟨hc,hrep,htk⟩
  ·rw[if_neg q];exact g4 j' c' e
 ·rw[hget] at x
  rcases hcs j' c' e with ⟨rfl,rfl⟩|⟨q,e⟩
  ·rw[if_pos rfl] at x
   have:=r.tok none k x
   exact⟨this.1,this.2.1,this.2.2.1,fun l _=>this.2.2.2 l⟩
  ·rw[if_neg q] at x
   have ho:=oldown j' k c' e x
   have:=h.rng _ k ho
   exact⟨this.1,this.2.1,this.2.2,fun l hl e2=>hl j' (h.inj _ _ k e2 ho)⟩
 ·rw[hget] at x x'
  rcases hcs j' c' e with ⟨rfl,rfl⟩|⟨q1,e1⟩<;>rcases hcs j'' c'' e' with ⟨rfl,rfl⟩|⟨q2,e2⟩
  ·rfl
  ·rw[if_pos rfl] at x;rw[if_neg q2] at x'
   exact absurd (oldown j'' k c'' e2 x') ((r.tok none k x).2.2.2 _)
  ·rw[if_neg q1] at x;rw[if_pos rfl] at x'
   exact absurd (oldown j' k c' e1 x) ((r.tok none k x').2.2.2 _)
  ·rw[if_neg q1] at x;rw[if_neg q2] at x'
   have:=h.inj _ _ k (oldown j' k c' e1 x) (oldown j'' k c'' e2 x');injection this
theorem Sim.unit (h:Sim B T0 μ0 w0 N μ lx a w st) (h0:μ0.df=[]:=by first|assumption|exact Sim.mdf (by assumption)):Sim B T0 μ0 w0 1 μ (fun _=>none) ⟨#[.tuple #[]],[]⟩ w ⟨[(0,.tup [])],[],st.s⟩ :=
 h.out (.mk' ⟨.tup _ _ rfl (fun j c hc=>by simp at hc),fun j c hc=>by simp at hc⟩ fun j=>by cases j<;>simp[ownV,exBlk]) fun d i q=>by cases q
theorem Sim.text (h:Sim B T0 μ0 w0 N μ lx a w st) (l:List UInt8) (h0:μ0.df=[]:=by first|assumption|exact Sim.mdf (by assumption)):Sim B T0 μ0 w0 1 μ (fun _=>none) ⟨#[.string ⟨l.toArray⟩],[]⟩ w ⟨[(0,.str l)],[],st.s⟩ :=
 h.out (.mk' ⟨by have:=Rep.str (B:=B) (μ:=μ) (w:=w) ⟨l.toArray⟩;simpa using this,trivial⟩ fun j=>by cases j<;>simp[ownV,exBlk]) fun d i q=>by cases q
end
end Go.AI
end
section
namespace Go.AI
set_option linter.unusedVariables false
section
variable {P:Program}
end
end Go.AI
end
section
namespace Go.AI
set_option linter.unusedVariables false
def msRow (ty a n k:Nat):List AV:=(List.range n).map fun i=>.ms ty 1 (a+i) 0 k
end Go.AI
end
section
namespace Go.AI
structure TO {α:Type} (c:α→α→Int):Prop where
 sgn:∀a b,c a b=-1∨c a b=0∨c a b=1
 flip:∀a b,c b a=- c a b
 trans:∀a b d,c a b≤0→c b d≤0→c a d≤0
 eq:∀a b,c a b=0→a=b
namespace TO
variable {α β:Type} {c:α→α→Int} {d:β→β→Int}
theorem refl (h:TO c) (a:α):c a a=0:=by have:=h.flip a a;omega
theorem lt_le (h:TO c) {a b e:α} (h1:c a b<0) (h2:c b e≤0):c a e<0:=by
 have h3:=h.trans a b e (by omega) h2
 rcases Int.lt_or_eq_of_le h3 with q|q
 ·exact q
 ·have:=h.eq _ _ q;subst this
  have:=h.flip a b;omega
theorem le_lt (h:TO c) {a b e:α} (h1:c a b≤0) (h2:c b e<0):c a e<0:=by
 have h3:=h.trans a b e h1 (by omega)
 rcases Int.lt_or_eq_of_le h3 with q|q
 ·exact q
 ·have:=h.eq _ _ q;subst this
  have:=h.flip a b;omega
theorem comap (h:TO c) (f:β→α) (hf:∀x y,f x=f y→x=y):TO fun x y=>c (f x) (f y) :=
 ⟨fun _ _=>h.sgn _ _,fun _ _=>h.flip _ _,fun _ _ _=>h.trans _ _ _,fun _ _ e=>hf _ _ (h.eq _ _ e)⟩
end TO
def orI (x y:Int):Int:=if x=0 then y else x
theorem TO.prod {α β:Type} {c:α→α→Int} {d:β→β→Int} (h:TO c) (k:TO d):TO fun (x y:α×β)=>orI (c x.1 y.1) (d x.2 y.2):=by
 refine⟨fun a b=>?_,fun a b=>?_,fun a b e=>?_,fun a b=>?_⟩
 ·unfold orI;split;exact k.sgn _ _;exact h.sgn _ _
 ·unfold orI
  have:=h.flip a.1 b.1;have:=k.flip a.2 b.2
  split<;>split<;>omega
 ·intro h1 h2
  unfold orI at h1 h2 ⊢
  by_cases q1:c a.1 b.1=0
  ·rw[if_pos q1] at h1
   have e1:=h.eq _ _ q1
   by_cases q2:c b.1 e.1=0
   ·rw[if_pos q2] at h2
    have e2:=h.eq _ _ q2
    rw[e1,e2,h.refl,if_pos rfl]
    exact k.trans _ _ _ h1 h2
   ·rw[if_neg q2] at h2
    rw[e1,if_neg q2];exact h2
  ·rw[if_neg q1] at h1
   by_cases q2:c b.1 e.1=0
   ·have e2:=h.eq _ _ q2
    rw[← e2,if_neg q1];exact h1
   ·rw[if_neg q2] at h2
    have:=h.lt_le (a:=a.1) (b:=b.1) (e:=e.1) (by omega) h2
    rw[if_neg (by omega)];omega
 ·intro e
  unfold orI at e
  split at e
  ·rename_i q;exact Prod.ext (h.eq _ _ q) (k.eq _ _ e)
  ·rename_i q;exact absurd e q
def natC (a b:Nat):Int:=if a<b then -1 else if b<a then 1 else 0
theorem TO.nat:TO natC:=by
 refine⟨fun a b=>?_,fun a b=>?_,fun a b e=>?_,fun a b=>?_⟩<;>unfold natC<;>(repeat' split)<;>omega
def u8C (a b:UInt8):Int:=natC a.toNat b.toNat
theorem TO.u8:TO u8C:=TO.nat.comap UInt8.toNat fun _ _ e=>UInt8.toNat_inj.1 e
def lexC {α:Type} (c:α→α→Int):List α→List α→Int
 | [],[]=>0
 | [],_::_=>-1
 | _::_,[]=>1
 | a::x,b::y=>orI (c a b) (lexC c x y)
theorem TO.lex {α:Type} {c:α→α→Int} (h:TO c):TO (lexC c):=by
 refine⟨fun a=>?_,fun a=>?_,fun a=>?_,fun a=>?_⟩
 ·induction a with
  | nil=>intro b;cases b<;>simp[lexC]
  | cons a x ih =>
   intro b
   cases b with
   | nil=>simp[lexC]
   | cons b y=>simp only[lexC,orI];split;exact ih y;exact h.sgn _ _
 ·induction a with
  | nil=>intro b;cases b<;>simp[lexC]
  | cons a x ih =>
   intro b
   cases b with
   | nil=>simp[lexC]
   | cons b y =>
    simp only[lexC,orI]
    have:=ih y;have:=h.flip a b
    split<;>split<;>omega
 ·induction a with
  | nil=>intro b e h1 h2;cases b<;>cases e<;>simp[lexC] at *
  | cons a x ih =>
   intro b e h1 h2
   cases b with
   | nil=>simp[lexC] at h1
   | cons b y =>
    cases e with
    | nil=>simp[lexC] at h2
    | cons e z =>
     simp only[lexC,orI] at h1 h2 ⊢
     by_cases q1:c a b=0
     ·rw[if_pos q1] at h1
      have e1:=h.eq _ _ q1;subst e1
      split at h2
      ·rename_i q2;rw[if_pos q2];exact ih _ _ h1 h2
      ·rename_i q2;rw[if_neg q2];exact h2
     ·rw[if_neg q1] at h1
      by_cases q2:c b e=0
      ·have e2:=h.eq _ _ q2;subst e2;rw[if_neg q1];exact h1
      ·rw[if_neg q2] at h2
       have:=h.lt_le (a:=a) (b:=b) (e:=e) (by omega) h2
       rw[if_neg (by omega)];omega
 ·induction a with
  | nil=>intro b e;cases b with
   | nil=>rfl
   | cons=>simp[lexC] at e
  | cons a x ih =>
   intro b e
   cases b with
   | nil=>simp[lexC] at e
   | cons b y =>
    simp only[lexC,orI] at e
    split at e
    ·rename_i q;rw[h.eq _ _ q,ih _ e]
    ·rename_i q;exact absurd e q
def bytesC:List UInt8→List UInt8→Int:=lexC u8C
theorem TO.bytes:TO bytesC:=TO.u8.lex
end Go.AI
end
section
namespace Go.AI
def ix (c:UInt8):List UInt8→Option Nat
 | []=>none
 | b::r=>if b=c then some 0 else (ix c r).map (·+1)
def ixI (c:UInt8) (l:List UInt8):Int:=match ix c l with
 | some n=>n
 | none=>-1
theorem qi3 (l:List UInt8) (c:UInt8):Lib.indexByte l c=ixI c l:=by
 induction l with
 | nil=>rfl
 | cons b r ih =>
  simp only[Lib.indexByte,ih,ixI,ix,beq_iff_eq]
  split
  ·rfl
  ·cases ix c r with
   | none=>rfl
   | some n=>simp only[Option.map_some];rw[if_neg (by omega)];omega
theorem qj8 {c:UInt8} {l:List UInt8}:ix c l=none↔c∉l:=by
 induction l with
 | nil=>simp[ix]
 | cons b r ih =>
  simp only[ix,List.mem_cons,not_or]
  split
  ·rename_i h;simp[h]
  ·rename_i h
   rw[Option.map_eq_none_iff,ih]
   exact⟨fun q=>⟨fun e=>h e.symm,q⟩,fun q=>q.2⟩
theorem qhj {c:UInt8} {l:List UInt8} {n:Nat} (h:ix c l=some n):n<l.length∧l[n]? = some c∧c∉l.take n∧l=l.take n++c::l.drop (n+1):=by
 induction l generalizing n with
 | nil=>simp[ix] at h
 | cons b r ih =>
  simp only[ix] at h
  split at h
  ·rename_i e;subst e;injection h with h;subst h;simp
  ·rename_i e
   obtain⟨m,hm,rfl⟩:=Option.map_eq_some_iff.1 h
   obtain⟨h1,h2,h3,h4⟩:=ih hm
   refine⟨by simp;omega,by simpa using h2,?_,?_⟩
   ·simp only[List.take_succ_cons,List.mem_cons,not_or];exact⟨fun q=>e q.symm,h3⟩
   ·simp only[List.take_succ_cons,List.drop_succ_cons,List.cons_append];rw[← h4]
theorem qyb {c:UInt8} {x y:List UInt8} (h:c∉x):ix c (x++c::y)=some x.length:=by
 induction x with
 | nil=>simp[ix]
 | cons b r ih =>
  simp only[List.mem_cons,not_or] at h
  simp only[List.cons_append,ix,if_neg (fun q=>h.1 (Eq.symm q)),ih h.2,Option.map_some,List.length_cons]
def cutB (c:UInt8) (l:List UInt8):List UInt8×List UInt8×Bool:=match ix c l with
 | some n=>(l.take n,l.drop (n+1),true)
 | none=>(l,[],false)
def splitB (c:UInt8):List UInt8→List (List UInt8)
 | []=>[[]]
 | b::r=>if b=c then []::splitB c r else match splitB c r with
  | []=>[[b]]
  | h::t=>(b::h)::t
theorem qa0 (c:UInt8) (l:List UInt8):splitB c l≠[]:=by
 cases l with
 | nil=>simp[splitB]
 | cons b r=>simp only[splitB];split;simp;split<;>simp
theorem qc7 {c:UInt8} {l:List UInt8} (h:c∉l):splitB c l=[l]:=by
 induction l with
 | nil=>rfl
 | cons b r ih =>
  simp only[List.mem_cons,not_or] at h
  simp only[splitB,if_neg (fun q=>h.1 (Eq.symm q)),ih h.2]
theorem qd8 {c:UInt8} {x y:List UInt8} (h:c∉x):splitB c (x++c::y)=x::splitB c y:=by
 induction x with
 | nil=>simp[splitB]
 | cons b r ih =>
  simp only[List.mem_cons,not_or] at h
  simp only[List.cons_append,splitB,if_neg (fun q=>h.1 (Eq.symm q)),ih h.2]
theorem qoj {c:UInt8} {l:List UInt8} {n:Nat} (h:ix c l=some n):splitB c l=l.take n::splitB c (l.drop (n+1)):=by
 obtain⟨h1,h2,h3,h4⟩:=qhj h
 conv=>lhs;rw[h4]
 exact qd8 h3
theorem qg3 (c:UInt8) (l:List UInt8):(splitB c l).length=Lib.countByte l c+1:=by
 induction l with
 | nil=>rfl
 | cons b r ih =>
  simp only[splitB,Lib.countByte] at ih ⊢
  by_cases e:b=c
  ·subst e;simp[ih]
  ·rw[if_neg e,List.count_cons_of_ne e,← ih]
   have:=qa0 c r
   split
   ·rename_i q;exact absurd q this
   ·rename_i q;rw[q];simp
theorem qmf {c:UInt8} {l x:List UInt8} (h:x∈splitB c l):c∉x:=by
 induction l generalizing x with
 | nil=>simp[splitB] at h;subst h;simp
 | cons b r ih =>
  simp only[splitB] at h
  split at h
  ·rcases List.mem_cons.1 h with rfl|h
   ·simp
   ·exact ih h
  ·rename_i e
   split at h
   ·rename_i q;exact absurd q (qa0 _ _)
   ·rename_i h0 t q
    rcases List.mem_cons.1 h with rfl|h
    ·simp only[List.mem_cons,not_or];exact⟨fun q=>e q.symm,ih (q▸List.mem_cons_self)⟩
    ·exact ih (q▸List.mem_cons_of_mem _ h)
def joinB (c:UInt8):List (List UInt8)→List UInt8
 | []=>[]
 | [x]=>x
 | x::r=>x++c::joinB c r
theorem qg4 (c:UInt8) (x:List UInt8) {r:List (List UInt8)} (h:r≠[]):joinB c (x::r)=x++c::joinB c r:=by
 cases r with
 | nil=>exact absurd rfl h
 | cons=>rfl
theorem qd9 (c:UInt8) (l:List UInt8):joinB c (splitB c l)=l:=by
 induction l with
 | nil=>rfl
 | cons b r ih =>
  simp only[splitB]
  split
  ·rename_i e;rw[qg4 _ _ (qa0 _ _),ih,e];rfl
  ·split
   ·rename_i q;exact absurd q (qa0 _ _)
   ·rename_i h t q
    rw[q] at ih
    cases t with
    | nil=>simp only[joinB] at ih ⊢;rw[ih]
    | cons y z=>rw[qg4 _ _ (by simp)] at ih ⊢;rw[← ih];rfl
def lix (c:UInt8):List UInt8→Option Nat
 | []=>none
 | b::r=>match lix c r with
  | some n=>some (n+1)
  | none=>if b=c then some 0 else none
def lixI (c:UInt8) (l:List UInt8):Int:=match lix c l with
 | some n=>n
 | none=>-1
theorem qex {c:UInt8} {l:List UInt8} {n:Nat} (h:lix c l=some n):n<l.length∧l[n]? = some c∧c∉l.drop (n+1)∧l=l.take n++c::l.drop (n+1):=by
 induction l generalizing n with
 | nil=>simp[lix] at h
 | cons b r ih =>
  simp only[lix] at h
  split at h
  ·rename_i m hm
   injection h with h;subst h
   obtain⟨h1,h2,h3,h4⟩:=ih hm
   refine⟨by simp;omega,by simpa using h2,by simpa using h3,?_⟩
   simp only[List.take_succ_cons,List.drop_succ_cons,List.cons_append];rw[← h4]
  ·rename_i hm
   split at h
   ·rename_i e;injection h with h;subst h;subst e
    have:∀{l:List UInt8},lix b l=none→b∉l:=by
     intro l
     induction l with
     | nil=>simp
     | cons a s ih =>
      simp only[lix]
      split
      ·intro q;cases q
      ·rename_i q;split
       ·intro q;cases q
       ·rename_i e;intro _;simp only[List.mem_cons,not_or];exact⟨fun w=>e w.symm,ih q⟩
    simp[this hm]
   ·cases h
theorem qhk {c:UInt8} {l:List UInt8}:lix c l=none↔c∉l:=by
 induction l with
 | nil=>simp[lix]
 | cons b r ih =>
  simp only[lix,List.mem_cons,not_or]
  cases hq:lix c r with
  | none =>
   rw[hq] at ih
   simp only[true_iff] at ih
   by_cases e:b=c
   ·simp[e]
   ·simp only[if_neg e,true_iff];exact⟨fun w=>e w.symm,ih⟩
  | some n =>
   rw[hq] at ih
   simp only[reduceCtorEq,false_iff] at ih ⊢
   exact fun q=>ih q.2
theorem qj9 (c:UInt8) (l:List UInt8):(splitB c l).getLast (qa0 c l)=match lix c l with
  | some n=>l.drop (n+1)
  | none=>l:=by
 induction l with
 | nil=>rfl
 | cons b r ih =>
  have hne:=qa0 c r
  by_cases e:b=c
  ·have h1:splitB c (b::r)=[]::splitB c r:=by simp[splitB,e]
   have h2:(splitB c (b::r)).getLast (qa0 c _)=(splitB c r).getLast hne:=by
    simp only[h1];rw[List.getLast_cons hne]
   rw[h2,ih]
   simp only[lix,e,if_true]
   cases lix c r<;>simp
  ·obtain⟨h,t,q⟩:∃h t,splitB c r=h::t:=by cases hq:splitB c r with
    | nil=>exact absurd hq hne
    | cons h t=>exact⟨h,t,rfl⟩
   have h1:splitB c (b::r)=(b::h)::t:=by simp[splitB,e,q]
   simp only[q] at ih
   simp only[h1,lix,if_neg e]
   cases t with
   | nil =>
    simp only[List.getLast_singleton] at ih ⊢
    cases hl:lix c r with
    | none=>rw[hl] at ih;simp only at ih ⊢;rw[ih]
    | some n =>
     rw[hl] at ih;simp only at ih
     have h3:=qex hl
     have h4:c∈r:=List.mem_of_getElem? h3.2.1
     have h5:Lib.countByte r c+1=1:=by rw[← qg3,q];rfl
     have h6:=List.count_pos_iff.2 h4
     unfold Lib.countByte at h5;omega
   | cons y z =>
    rw[List.getLast_cons (by simp)] at ih ⊢
    rw[ih]
    cases hl:lix c r with
    | none =>
     rw[hl] at ih
     have h4:=qc7 (qhk.1 hl)
     rw[q] at h4;simp at h4
    | some n=>simp
theorem qfn (a b:List UInt8):Lib.compareBytes a b=bytesC a b:=by
 induction a generalizing b with
 | nil=>cases b<;>rfl
 | cons x a ih =>
  cases b with
  | nil=>rfl
  | cons y b =>
   simp only[Lib.compareBytes,ih,bytesC,lexC,orI,u8C,natC,UInt8.lt_iff_toNat_lt]
   by_cases h1:x.toNat<y.toNat
   ·simp[h1]
   ·by_cases h2:y.toNat<x.toNat
    ·simp[h1,h2]
    ·simp[h1,h2]
end Go.AI
namespace Go.AI
theorem qbd {c:UInt8} {l x:List UInt8} (h:x∈splitB c l):x.length≤l.length:=by
 induction l generalizing x with
 | nil=>simp[splitB] at h;subst h;simp
 | cons b r ih =>
  simp only[splitB] at h
  split at h
  ·rcases List.mem_cons.1 h with rfl|h
   ·simp
   ·have:=ih h;simp;omega
  ·split at h
   ·rename_i q;exact absurd q (qa0 _ _)
   ·rename_i h0 t q
    rcases List.mem_cons.1 h with rfl|h
    ·have:=ih (x:=h0) (q▸List.mem_cons_self);simp;omega
    ·have:=ih (q▸List.mem_cons_of_mem _ h);simp;omega
theorem qa9 (c:UInt8) (l:List UInt8):(splitB c l).length≤l.length+1:=by
 rw[qg3];have:Lib.countByte l c≤l.length:=List.count_le_length;omega
theorem qok (c:UInt8) (l:List UInt8):(cutB c l).1.length≤l.length∧(cutB c l).2.1.length≤l.length:=by
 unfold cutB
 split
 ·simp;omega
 ·simp
end Go.AI
end
section
namespace Go.AI
def isD (c:UInt8):Bool:=decide (48≤c.toNat∧c.toNat≤57)
def isU (c:UInt8):Bool:=decide (65≤c.toNat∧c.toNat≤90)
def isL (c:UInt8):Bool:=decide (97≤c.toNat∧c.toNat≤122)
def isH (c:UInt8):Bool:=decide (128≤c.toNat)
def allB (p:UInt8→Bool) (s:List UInt8):Bool:=s.all p&&!s.isEmpty
def plainB (s:List UInt8):Bool:=match s with
 | []=>false
 | c::r=>c != 48||r.isEmpty
def valB (s:List UInt8):Nat:=s.foldl (fun n c=>n*10+(c.toNat-48)) 0
def numOk (s:List UInt8):Bool:=allB isD s&&plainB s&&decide (s.length≤9)
def numB (s:List UInt8):Option Nat:=if numOk s then some (valB s) else none
def wordB (others:List UInt8) (c:UInt8):Bool:=isD c||isU c||isL c||decide (c∈others)
def idB (s:List UInt8):Bool:=allB (wordB [45]) s&&!(allB isD s&&!plainB s)
def idsB (p:List UInt8):Bool:=(splitB 46 p).all idB
structure Ver where
 ma:Nat
 mi:Nat
 pa:Nat
 pre:List UInt8
 deriving DecidableEq
def coreOf (r:List UInt8):Option (Nat×Nat×Nat):=match splitB 46 r with
 | [a,b,c]=>match numB a,numB b,numB c with
  | some x,some y,some z=>some (x,y,z)
  | _,_,_=>none
 | _=>none
def readB (s:List UInt8):Option Ver:=if 60<s.length then none else match s with
 | []=>none
 | c::r=>if c≠118 then none else match coreOf (cutB 45 r).1 with
  | none=>none
  | some (x,y,z)=>if (cutB 45 r).2.2&&!idsB (cutB 45 r).2.1 then none else some ⟨x,y,z,(cutB 45 r).2.1⟩
theorem snocInd {α:Type} {P:List α→Prop} (h0:P []) (h1:∀l c,P l→P (l++[c])) (l:List α):P l:=by
 have:∀n (l:List α),l.length=n→P l:=by
  intro n
  induction n with
  | zero=>intro l h;rw[List.length_eq_zero_iff.1 h];exact h0
  | succ n ih =>
   intro l h
   have hne:l≠[]:=by rintro rfl;simp at h
   rw[← List.dropLast_concat_getLast hne]
   exact h1 _ _ (ih _ (by simp[h]))
 exact this _ l rfl
theorem qfo (l:List UInt8) (c:UInt8):valB (l++[c])=valB l*10+(c.toNat-48):=by simp[valB,List.foldl_append]
theorem qol (s:List UInt8) (h:s.all isD=true):valB s<10^s.length:=by
 revert h
 refine snocInd (P:=fun s=>s.all isD=true→valB s<10^s.length) ?_ ?_ s
 ·intro h;simp[valB]
 ·intro l c ih h
  rw[List.all_append,Bool.and_eq_true] at h
  have:=ih h.1
  have h2:=h.2
  simp[isD] at h2
  rw[qfo,List.length_append,List.length_singleton,Nat.pow_succ];omega
theorem qhl {s:List UInt8} {n:Nat} (h:numB s=some n):n<1000000000:=by
 unfold numB at h
 split at h
 ·rename_i q
  injection h with h
  simp[numOk,allB] at q
  have:=qol s (List.all_eq_true.2 q.1.1.1)
  have h3:10^s.length≤10^9:=Nat.pow_le_pow_right (by omega) q.2
  omega
 ·cases h
theorem qyc {c:UInt8} (h:isD c=true):UInt8.ofNat (48+(c.toNat-48))=c:=by
 simp[isD] at h
 rw[show 48+(c.toNat-48)=c.toNat by omega];simp
theorem qg5 (s:List UInt8) (h:s.all isD=true) (hp:plainB s=true):Lib.decDigits (valB s)=s:=by
 revert h hp
 refine snocInd (P:=fun s=>s.all isD=true→plainB s=true→Lib.decDigits (valB s)=s) ?_ ?_ s
 ·intro h hp;simp[plainB] at hp
 ·intro l c ih h hp
  rw[List.all_append,Bool.and_eq_true] at h
  have hc:isD c=true:=by simpa using h.2
  have hd:c.toNat-48<10:=by simp[isD] at hc;omega
  rw[qfo]
  cases l with
  | nil =>
   rw[Lib.decDigits,dif_pos (by simp[valB];omega)]
   simp[valB,qyc hc]
  | cons a r =>
   have hp':plainB (a::r)=true∧a≠48:=by
    simp[plainB] at hp ⊢;exact⟨.inl hp,hp⟩
   have hl:=ih h.1 hp'.1
   have h0:valB (a::r)≠0:=by
    intro e
    rw[e,Lib.decDigits,dif_pos (by omega)] at hl
    simp at hl
    exact hp'.2 hl.1.symm
   rw[Lib.decDigits,dif_neg (by omega),show (valB (a::r)*10+(c.toNat-48))/10=valB (a::r) by omega,show (valB (a::r)*10+(c.toNat-48))%10=c.toNat-48 by omega,hl,qyc hc]
theorem qci {s:List UInt8} {n:Nat} (h:numB s=some n):Lib.decDigits n=s:=by
 unfold numB at h
 split at h
 ·rename_i q
  injection h with h
  subst h
  simp only[numOk,allB,Bool.and_eq_true] at q
  exact qg5 s q.1.1.1 q.1.2
 ·cases h
def verT (v:Ver):List UInt8:=118::(Lib.decDigits v.ma++46::(Lib.decDigits v.mi++46::Lib.decDigits v.pa))++(if v.pre=[] then [] else 45::v.pre)
theorem qka {r:List UInt8} {x y z:Nat} (h:coreOf r=some (x,y,z)):r=Lib.decDigits x++46::(Lib.decDigits y++46::Lib.decDigits z):=by
 unfold coreOf at h
 split at h
 ·rename_i a b c hs
  split at h
  ·rename_i x' y' z' ha hb hc
   injection h with h
   simp only[Prod.mk.injEq] at h
   obtain⟨rfl,rfl,rfl⟩:=h
   rw[qci ha,qci hb,qci hc,← qd9 46 r,hs]
   rfl
  ·cases h
 ·cases h
theorem qom {r:List UInt8} {x y z:Nat} (h:coreOf r=some (x,y,z)):x<1000000000∧y<1000000000∧z<1000000000:=by
 unfold coreOf at h
 split at h
 ·split at h
  ·rename_i x' y' z' ha hb hc
   injection h with h
   simp only[Prod.mk.injEq] at h
   obtain⟨rfl,rfl,rfl⟩:=h
   exact⟨qhl ha,qhl hb,qhl hc⟩
  ·cases h
 ·cases h
theorem qvd {p:List UInt8} (h:idsB p=true):p≠[]:=by
 rintro rfl
 simp[idsB,splitB,idB,allB] at h
theorem qi4 (c:UInt8) (l:List UInt8):((cutB c l).2.2=true∧l=(cutB c l).1++c::(cutB c l).2.1)∨((cutB c l).2.2=false∧(cutB c l).1=l∧(cutB c l).2.1=[]):=by
 unfold cutB
 cases h:ix c l with
 | none=>exact .inr ⟨rfl,rfl,rfl⟩
 | some n=>exact .inl ⟨rfl,(qhj h).2.2.2⟩
structure ReadAs (s:List UInt8) (v:Ver):Prop where
 text:s=verT v
 ma:v.ma<1000000000
 mi:v.mi<1000000000
 pa:v.pa<1000000000
 len:s.length≤60
 pre:v.pre=[]∨idsB v.pre=true
theorem qc8 {s:List UInt8} {v:Ver} (h:readB s=some v):ReadAs s v:=by
 unfold readB at h
 split at h
 ·cases h
 ·rename_i hl
  split at h
  ·cases h
  ·rename_i c r
   split at h
   ·cases h
   ·rename_i hc
    have hc:c=118:=by simpa using hc
    subst hc
    split at h
    ·cases h
    ·rename_i x y z hcore
     split at h
     ·cases h
     ·rename_i hids
      injection h with h
      subst h
      have ht:=qka hcore
      have hlt:=qom hcore
      refine⟨?_,hlt.1,hlt.2.1,hlt.2.2,by omega,?_⟩
      ·rcases qi4 45 r with ⟨h1,h2⟩|⟨h1,h2,h3⟩
       ·have hp:(cutB 45 r).2.1≠[]:=by
         rw[h1] at hids
         simp at hids
         exact qvd hids
        unfold verT
        simp only[if_neg hp]
        rw[← ht]
        conv=>lhs;rw[h2]
        simp
       ·unfold verT
        simp only[h3,if_true,List.append_nil]
        rw[← ht,h2]
      ·rcases qi4 45 r with ⟨h1,h2⟩|⟨h1,h2,h3⟩
       ·rw[h1] at hids;simp at hids;exact .inr hids
       ·exact .inl h3
theorem qon {s t:List UInt8} {v:Ver} (h:readB s=some v) (k:readB t=some v):s=t:=(qc8 h).text.trans (qc8 k).text.symm
def idC (a b:List UInt8):Int:=if allB isD a=true then (if allB isD b=true then orI (natC a.length b.length) (bytesC a b) else -1) else if allB isD b=true then 1 else bytesC a b
def presC (a b:List UInt8):Int:=if a=[]∨b=[] then natC (min b.length 1) (min a.length 1) else lexC idC (splitB 46 a) (splitB 46 b)
def verC (x y:Ver):Int:=orI (natC x.ma y.ma) (orI (natC x.mi y.mi) (orI (natC x.pa y.pa) (presC x.pre y.pre)))
def cmpB (a b:List UInt8):Int:=match readB a,readB b with
 | none,none=>bytesC a b
 | none,some _=>-1
 | some _,none=>1
 | some x,some y=>verC x y
def sumC {α β:Type} (c:α→α→Int) (d:β→β→Int):α ⊕ β→α ⊕ β→Int
 | .inl a,.inl b=>c a b
 | .inl _,.inr _=>-1
 | .inr _,.inl _=>1
 | .inr a,.inr b=>d a b
theorem TO.sum {α β:Type} {c:α→α→Int} {d:β→β→Int} (h:TO c) (k:TO d):TO (sumC c d):=by
 refine⟨fun a b=>?_,fun a b=>?_,fun a b e=>?_,fun a b=>?_⟩
 ·cases a<;>cases b<;>first|exact h.sgn _ _|exact k.sgn _ _|exact .inl rfl|exact .inr (.inr rfl)
 ·cases a<;>cases b<;>first|exact h.flip _ _|exact k.flip _ _|rfl
 ·cases a<;>cases b<;>cases e<;>simp only[sumC]<;>first|exact h.trans _ _ _|exact k.trans _ _ _|(intros;omega)
 ·cases a<;>cases b<;>intro e<;>first|rw[h.eq _ _ e]|rw[k.eq _ _ e]|(simp[sumC] at e)
def idKey (a:List UInt8):(Nat×List UInt8) ⊕ List UInt8:=if allB isD a=true then .inl (a.length,a) else .inr a
theorem TO.id:TO idC:=by
 have h:=((TO.nat.prod TO.bytes).sum TO.bytes).comap idKey (by
  intro x y e
  unfold idKey at e
  split at e<;>split at e
  ·injection e with e;injection e
  ·cases e
  ·cases e
  ·injection e)
 have:idC=fun x y=>sumC (fun (x y:Nat×List UInt8)=>orI (natC x.1 y.1) (bytesC x.2 y.2)) bytesC (idKey x) (idKey y):=by
  funext x y
  unfold idC idKey
  split<;>split<;>rfl
 rw[this];exact h
theorem TO.pres:TO presC:=by
 have h:=(TO.id.lex.sum TO.nat).comap (fun p:List UInt8=>if p=[] then Sum.inr 0 else Sum.inl (splitB 46 p)) (by
  intro x y e
  split at e<;>split at e
  ·rename_i h1 h2;rw[h1,h2]
  ·cases e
  ·cases e
  ·injection e with e;rw[← qd9 46 x,e,qd9])
 have:presC=fun x y=>sumC (lexC idC) natC ((fun p:List UInt8=>if p=[] then Sum.inr 0 else Sum.inl (splitB 46 p)) x) ((fun p:List UInt8=>if p=[] then Sum.inr 0 else Sum.inl (splitB 46 p)) y):=by
  funext x y
  unfold presC
  have hm:∀l:List UInt8,l≠[]→min l.length 1=1:=fun l hl=>by cases l with
   | nil=>exact absurd rfl hl
   | cons a r=>simp
  by_cases h1:x=[]<;>by_cases h2:y=[]
  ·simp[h1,h2,sumC]
  ·simp[h1,h2,sumC,natC,hm y h2]
  ·simp[h1,h2,sumC,natC,hm x h1]
  ·simp[h1,h2,sumC]
 rw[this];exact h
theorem TO.ver:TO verC:=by
 have h:=(TO.nat.prod (TO.nat.prod (TO.nat.prod TO.pres))).comap (fun v:Ver=>(v.ma,v.mi,v.pa,v.pre)) (by
  rintro⟨⟩ ⟨⟩ e;simp only[Prod.mk.injEq] at e;obtain⟨rfl,rfl,rfl,rfl⟩:=e;rfl)
 exact h
theorem TO.cmp:TO cmpB:=by
 have h:=(TO.bytes.sum TO.ver).comap (fun s:List UInt8=>match readB s with
  | none=>Sum.inl s
  | some v=>Sum.inr v) (by
  intro x y e
  split at e<;>split at e
  ·injection e
  ·cases e
  ·cases e
  ·rename_i h1 _ _ h2;injection e with e;subst e;exact qon h1 h2)
 have:cmpB=fun x y=>sumC bytesC verC (match readB x with
  | none=>Sum.inl x
  | some v=>Sum.inr v) (match readB y with
  | none=>Sum.inl y
  | some v=>Sum.inr v):=by
  funext x y
  unfold cmpB
  cases readB x<;>cases readB y<;>rfl
 rw[this];exact h
end Go.AI
namespace Go.AI
theorem qhm (k:Nat):∀n:Nat,n<10^(k+1)→(Lib.decDigits n).length≤k+1:=by
 induction k with
 | zero=>intro n h;rw[Lib.decDigits,dif_pos (by omega)];simp
 | succ k ih =>
  intro n h
  rw[Lib.decDigits]
  split
  ·simp
  ·have:=ih (n/10) (by rw[Nat.pow_succ] at h;omega)
   simp;omega
def coreT (x y z:Nat):List UInt8:=118::(Lib.decDigits x++46::(Lib.decDigits y++46::Lib.decDigits z))
def inB (s:List UInt8) (i:Nat) (l m:List UInt8):Bool:=!(Op.bytesLess ((s.take (i+2)).drop i) l)&&(Op.bytesLess ((s.take (i+2)).drop i) m||(s.take (i+2)).drop i==m)
def stampB (s:List UInt8):Bool:=decide (s.length=14)&&(allB isD s&&(inB s 4 [48,49] [49,50]&&(inB s 6 [48,49] [51,49]&&(inB s 8 [48,48] [50,51]&&(inB s 10 [48,48] [53,57]&&inB s 12 [48,48] [53,57])))))
def isX (c:UInt8):Bool:=isD c||decide (97≤c.toNat∧c.toNat≤102)
def revB (s:List UInt8):Bool:=decide (s.length=12)&&allB isX s
def pseudoT (major:Nat) (base tr:List UInt8):List UInt8:=match readB base with
 | none=>coreT major 0 0++45::tr
 | some x=>if base=[] then coreT major 0 0++45::tr else if x.pre≠[] then base++[46,48,46]++tr else coreT x.ma x.mi (x.pa+1)++[45,48,46]++tr
def pseudoB (major:Int) (base time rev:List UInt8):List UInt8×Nat :=
 if major<0∨999999999<major then ([],6) else
 if stampB time=false∨revB rev=false then ([],15) else
 if base≠[]∧(∀x,readB base=some x→(x.ma:Int)≠major) then ([],8) else
 let out:=pseudoT major.toNat base (time++45::rev)
 if (readB out).isSome then (out,0) else ([],8)
end Go.AI
namespace Go.AI
def escC (c:UInt8):List UInt8:=if isU c=true then [33,c+32] else [c]
def escT (s:List UInt8):List UInt8:=s.flatMap escC
def escQ (c:UInt8):Bool:=c==33||isH c
def escBad (s:List UInt8):Bool:=s.any escQ
def escR (s:List UInt8):List UInt8×Nat:=if escBad s=true then ([],15) else (escT s,0)
end Go.AI
namespace Go.AI
def unT:List UInt8→Option (List UInt8)
 | []=>some []
 | [c]=>if c=33 then none else some [c]
 | c::d::r=>if c=33 then (if isL d=true then (unT r).map ((d-32)::·) else none) else (unT (d::r)).map (c::·)
def unQ (c:UInt8):Bool:=isU c||isH c
def unBad (s:List UInt8):Bool:=s.any unQ
def unR (s:List UInt8):List UInt8×Nat:=if unBad s=true then ([],15) else match unT s with
 | some t=>(t,0)
 | none=>([],15)
def elemB (o s:List UInt8):Bool:=allB (wordB o) s&&(!(decide (s.head? = some 46))&&!(decide (s.getLast? = some 46)))
def elemsB (o p:List UInt8):Bool:=(splitB 47 p).all (elemB o)
def majB:List UInt8→Option Nat
 | []=>none
 | c::r=>if c≠118 then none else match numB r with
  | none=>none
  | some n=>if n<2 then none else some n
def splitMB (p:List UInt8):List UInt8×Nat:=match lix 47 p with
 | none=>(p,0)
 | some i=>match majB (p.drop (i+1)) with
  | none=>(p,0)
  | some n=>(p.take i,n)
def oddB (c:UInt8):Bool:=isU c||(c==95||c==126)
def lastB (p:List UInt8):List UInt8:=match lix 47 p with
 | some n=>p.drop (n+1)
 | none=>p
def pathB (p:List UInt8):Nat:=if 100<p.length then 13 else
 if elemsB [45,46,95,126] p=false∨46∉(cutB 47 p).1∨(cutB 47 p).1.any oddB=true∨(cutB 47 p).1.head? = some 45 then 9 else
 if (cutB 47 p).2.2=true∧(lastB p).head? = some 118∧allB isD (lastB p).tail=true∧(splitMB p).2=0 then 10 else 0
def importB (p:List UInt8):Nat:=if 100<p.length then 13 else if elemsB [45,46,95,126,43] p=false then 9 else 0
def matchesB (v p:List UInt8):Bool:=match readB v with
 | none=>false
 | some x=>decide (x.ma=(splitMB p).2)||(decide ((splitMB p).2=0)&&decide (x.ma=1))
def checkB (p v:List UInt8):Nat:=if pathB p≠0 then pathB p else if readB v=none then 8 else if matchesB v p=false then 10 else 0
theorem qoo (p:List UInt8):lastB p∈splitB 47 p:=by
 have h:=qj9 47 p
 have:lastB p=(splitB 47 p).getLast (qa0 47 p):=by rw[h];rfl
 rw[this];exact List.getLast_mem _
end Go.AI
end
section
namespace Go.AI
theorem qf5 (s sub:List UInt8) (h:1≤sub.length):(Lib.lastIndex s sub=-1∧∀j,Lib.occAt s sub j=false)∨∃i:Nat,Lib.lastIndex s sub=i∧Lib.occAt s sub i=true∧∀j,i<j→Lib.occAt s sub j=false:=by
 have far:∀j,s.length-sub.length<j→Lib.occAt s sub j=false:=by
  intro j hj
  cases hq:Lib.occAt s sub j with
  | false=>rfl
  | true =>
   have:=(List.isPrefixOf_iff_prefix.1 hq).length_le
   simp at this;omega
 have short:s.length<sub.length→∀j,Lib.occAt s sub j=false:=by
  intro hlt j
  cases hq:Lib.occAt s sub j with
  | false=>rfl
  | true =>
   have:=(List.isPrefixOf_iff_prefix.1 hq).length_le
   simp at this;omega
 unfold Lib.lastIndex
 split
 ·rename_i hl
  rcases Lib.lastOcc_spec s sub (s.length-sub.length+1) with ⟨h1,h2⟩|⟨i,h0,h1,h2,h4⟩
  ·refine .inl ⟨h1,fun j=>?_⟩
   by_cases hj:j<s.length-sub.length+1
   ·exact h2 j hj
   ·exact far j (by omega)
  ·refine .inr ⟨i,h1,h2,fun j hj=>?_⟩
   ·by_cases hj2:j<s.length-sub.length+1
    ·exact h4 j hj hj2
    ·exact far j (by omega)
 ·rename_i hl
  exact .inl ⟨rfl,short (by omega)⟩
def unl (ls:List (List UInt8)):List UInt8:=(ls.map (·++[10])).flatten
@[simp] theorem unl_nil:unl []=[]:=rfl
@[simp] theorem unl_cons (x:List UInt8) (r:List (List UInt8)):unl (x::r)=x++10::unl r:=by simp[unl]
section
variable {μ:Type} (P:List UInt8→Option μ) (tp:List UInt8→Bool)
def mapP:List (List UInt8)→Option (List μ)
 | []=>some []
 | x::r=>match P x,mapP r with
  | some a,some l=>some (a::l)
  | _,_=>none
def IsNote (s t:List UInt8) (ms:List μ):Prop:=∃ls,ls≠[]∧(∀x∈ls,(10:UInt8)∉x)∧s=t++10::unl ls∧tp t=true∧mapP P ls=some ms
def cutN (s:List UInt8):Option (List UInt8×List μ) :=
 if [10] <:+ s then (if Lib.lastIndex (s.take (s.length-1)) [10,10]<0 then none else
  if tp ((s.take (s.length-1)).take ((Lib.lastIndex (s.take (s.length-1)) [10,10]).toNat+1)) then
   (match mapP P (splitB 10 ((s.take (s.length-1)).drop ((Lib.lastIndex (s.take (s.length-1)) [10,10]).toNat+2))) with
    | some ms=>some ((s.take (s.length-1)).take ((Lib.lastIndex (s.take (s.length-1)) [10,10]).toNat+1),ms)
    | none=>none) else none) else none
variable (hP:∀x m,P x=some m→x≠[]) (htp:∀t,tp t=true→[10] <:+ t)
include hP htp
end
end Go.AI
end
section
namespace Go.AI
theorem qcx {n:Nat} (h:n<10):Lib.decDigits n=[UInt8.ofNat (48+n)]:=Lib.decDigits_one h
theorem qhn {n:Nat} (h:¬n<10):Lib.decDigits n=Lib.decDigits (n/10)++[UInt8.ofNat (48+n%10)]:=by
 rw[Lib.decDigits,dif_neg h]
theorem qho {k:Nat} (h:k<10):(UInt8.ofNat (48+k)).toNat=48+k:=by
 rw[UInt8.toNat_ofNat_of_lt' (by show 48+k<256;omega)]
theorem qop {k:Nat} (h:k<10):isD (UInt8.ofNat (48+k))=true:=by
 unfold isD;rw[qho h];simp;omega
theorem qve (n:Nat):(Lib.decDigits n).all isD=true:=by
 induction n using Nat.strongRecOn with
 | _ n ih =>
  by_cases h:n<10
  ·rw[qcx h];simp only[List.all_cons,List.all_nil,qop h,Bool.and_true]
  ·rw[qhn h,List.all_append,ih _ (by omega)]
   simp only[List.all_cons,List.all_nil,qop (show n%10<10 by omega),Bool.and_true]
theorem qkb (n:Nat):valB (Lib.decDigits n)=n:=by
 induction n using Nat.strongRecOn with
 | _ n ih =>
  by_cases h:n<10
  ·rw[qcx h]
   have:valB [UInt8.ofNat (48+n)]=(UInt8.ofNat (48+n)).toNat-48:=by simp[valB]
   rw[this,qho h];omega
  ·rw[qhn h,qfo,ih _ (by omega),qho (by omega)];omega
theorem qyd (n:Nat):Lib.decDigits n≠[]:=by
 by_cases h:n<10
 ·rw[qcx h];simp
 ·rw[qhn h];simp
theorem qr6 (n:Nat) (h0:0<n):∃c r,Lib.decDigits n=c::r∧c≠48:=by
 induction n using Nat.strongRecOn with
 | _ n ih =>
  by_cases h:n<10
  ·refine⟨_,[],qcx h,fun e=>?_⟩
   have:=congrArg UInt8.toNat e
   rw[qho h] at this
   have h48:(48:UInt8).toNat=48:=rfl
   omega
  ·obtain⟨c,r,h1,h2⟩:=ih (n/10) (by omega) (by omega)
   exact⟨c,r++[UInt8.ofNat (48+n%10)],by rw[qhn h,h1];rfl,h2⟩
theorem qoq (n:Nat):plainB (Lib.decDigits n)=true:=by
 by_cases h:n<10
 ·rw[qcx h];simp[plainB]
 ·obtain⟨c,r,h1,h2⟩:=qr6 n (by omega)
  rw[h1];simp[plainB,h2]
theorem qvf {m n:Nat} (h:Lib.decDigits m=Lib.decDigits n):m=n:=by rw[← qkb m,h,qkb]
theorem qr7 (n:Nat):numB (Lib.decDigits n)=if n<1000000000 then some n else none:=by
 by_cases h:n<1000000000
 ·rw[if_pos h]
  have hl:=qhm 8 n (by omega)
  have hok:numOk (Lib.decDigits n)=true:=by
   simp only[numOk,allB,qve,qoq,Bool.true_and,Bool.and_true,Bool.and_eq_true,decide_eq_true_eq,Bool.not_eq_true']
   refine⟨?_,by omega⟩
   have:=qyd n
   cases hd:Lib.decDigits n with
   | nil=>exact absurd hd this
   | cons a r=>rfl
  unfold numB
  rw[if_pos hok,qkb]
 ·rw[if_neg h]
  cases hn:numB (Lib.decDigits n) with
  | none=>rfl
  | some m =>
   have h1:=qhl hn
   have h2:=qvf (qci hn)
   omega
theorem pu10:∀(s:List UInt8) (acc:Nat),s.all isD=true→(acc+1)*10^s.length≤10^18→Lib.parseUint10 acc s=.ok (s.foldl (fun n c=>n*10+(c.toNat-48)) acc)
 | [],acc,_,_=>rfl
 | c::r,acc,h,hb=>by
  rw[List.all_cons,Bool.and_eq_true] at h
  have hd:48≤c.toNat∧c.toNat≤57:=of_decide_eq_true h.1
  have hp:0<10^r.length:=Nat.pow_pos (by omega)
  have e:(acc+1)*10^(c::r).length=((acc+1)*10)*10^r.length:=by rw[List.length_cons,Nat.pow_succ,Nat.mul_assoc,Nat.mul_comm (10^r.length) 10]
  rw[e] at hb
  have h1:(acc+1)*10≤10^18:=Nat.le_trans (Nat.le_mul_of_pos_right _ hp) hb
  have h2:(acc*10+(c.toNat-48)+1)*10^r.length≤10^18:=Nat.le_trans (Nat.mul_le_mul_right _ (by omega)) hb
  rw[Lib.parseUint10,if_pos hd,if_neg (by omega),if_neg (by omega),pu10 r _ h.2 h2]
  rfl
theorem qfp (s:List UInt8) (ha:s.all isD=true) (h0:s≠[]) (hl:s.length≤17):Lib.atoiAll s=.ok (valB s:Int):=by
 cases s with
 | nil=>exact absurd rfl h0
 | cons c r =>
  have hv:=qol (c::r) ha
  have hp17:10^(c::r).length≤10^17:=Nat.pow_le_pow_right (by omega) hl
  have hp:=pu10 (c::r) 0 ha (by rw[Nat.zero_add,Nat.one_mul];exact Nat.le_trans hp17 (by omega))
  have hd:isD c=true:=by rw[List.all_cons,Bool.and_eq_true] at ha;exact ha.1
  have hd2:48≤c.toNat∧c.toNat≤57:=of_decide_eq_true hd
  rw[Lib.atoiAll_plain c r (by omega) (by omega)]
  unfold Lib.parseMag
  rw[if_neg (by simp),hp]
  have:(c::r).foldl (fun n c=>n*10+(c.toNat-48)) 0=valB (c::r):=rfl
  rw[this]
  show (if 9223372036854775808≤valB (c::r) then Lib.NumEnd.range else Lib.NumEnd.ok ((valB (c::r):Nat):Int))=_
  rw[if_neg (by omega)]
end Go.AI
end
section
namespace Go.AI
section
variable {α:Type} {c:α→α→Int}
def Srt (c:α→α→Int) (l:List α):Prop:=l.Pairwise fun a b=>c a b≤0
def ins1 (c:α→α→Int) (a:α):List α→List α
 | []=>[a]
 | b::r=>if c a b≤0 then a::b::r else b::ins1 c a r
def isrt (c:α→α→Int):List α→List α
 | []=>[]
 | a::r=>ins1 c a (isrt c r)
theorem qor (a:α) (l:List α):(ins1 c a l).Perm (a::l):=by
 induction l with
 | nil=>exact .refl _
 | cons b r ih =>
  simp only[ins1]
  split
  ·exact .refl _
  ·exact (List.Perm.cons b ih).trans (.swap a b r)
theorem qi5 (l:List α):(isrt c l).Perm l:=by
 induction l with
 | nil=>exact .refl _
 | cons a r ih=>exact (qor a _).trans (.cons a ih)
theorem q9 (l:List α):(isrt c l).length=l.length:=(qi5 l).length_eq
theorem qby {l:List α} {a:α}:a∈isrt c l↔a∈l:=(qi5 l).mem_iff
theorem two {A B C:List α} {a d:α} {i j:Nat} (hi:i=A.length) (hj:j=A.length+(B.length+1)) :
  (A++a::(B++d::C))[i]? = some a∧(A++a::(B++d::C))[j]? = some d∧((A++a::(B++d::C)).set i d).set j a=A++d::(B++a::C):=by
 subst hi;subst hj
 refine⟨by simp,?_,?_⟩
 ·rw[List.getElem?_append_right (by omega)];simp
 ·simp[List.set_append_right]
end
end Go.AI
end
section
namespace Go.AI
section
variable {α:Type} {c:α→α→Int}
structure TP (c:α→α→Int):Prop where
 flip:∀a b,c b a=- c a b
 trans:∀a b d,c a b≤0→c b d≤0→c a d≤0
theorem TO.tp (h:TO c):TP c:=⟨h.flip,h.trans⟩
namespace TP
theorem refl (h:TP c) (a:α):c a a=0:=by have:=h.flip a a;omega
theorem lt_le (h:TP c) {a b e:α} (h1:c a b<0) (h2:c b e≤0):c a e<0:=by
 rcases Int.lt_or_le (c a e) 0 with q|q
 ·exact q
 ·have h3:=h.flip a e
  have:=h.trans b e a h2 (by omega)
  have:=h.flip a b;omega
theorem le_lt (h:TP c) {a b e:α} (h1:c a b≤0) (h2:c b e<0):c a e<0:=by
 rcases Int.lt_or_le (c a e) 0 with q|q
 ·exact q
 ·have h3:=h.flip a e
  have:=h.trans e a b (by omega) h1
  have:=h.flip b e;omega
theorem nlt (h:TP c) {a b:α}:¬c b a<0↔c a b≤0:=by have:=h.flip a b;omega
theorem comap {β:Type} (h:TP c) (f:β→α):TP fun x y=>c (f x) (f y):=⟨fun _ _=>h.flip _ _,fun _ _ _=>h.trans _ _ _⟩
end TP
def mrg (c:α→α→Int):List α→List α→List α
 | [],R=>R
 | a::L,[]=>a::L
 | a::L,b::R=>if c b a<0 then b::mrg c (a::L) R else a::mrg c L (b::R)
termination_by L R=>L.length+R.length
@[simp] theorem qos (R:List α):mrg c [] R=R:=by rw[mrg]
@[simp] theorem mrg_nil' (L:List α):mrg c L []=L:=by cases L<;>rw[mrg]
theorem qa6 (a b:α) (L R:List α):mrg c (a::L) (b::R)=if c b a<0 then b::mrg c (a::L) R else a::mrg c L (b::R):=by rw[mrg]
theorem qey (L R:List α):(mrg c L R).Perm (L++R):=by
 fun_induction mrg c L R with
 | case1 R=>exact .refl _
 | case2 a L=>simp
 | case3 a L b R h ih=>exact (List.Perm.cons b ih).trans List.perm_middle.symm
 | case4 a L b R h ih=>exact .cons a ih
theorem qdz {L1 L2 R1 R2:List α} (h1:∀a∈L1,∀b∈R2,¬c b a<0) (h2:∀b∈R1,∀a∈L2,c b a<0):mrg c (L1++L2) (R1++R2)=mrg c L1 R1++mrg c L2 R2:=by
 fun_induction mrg c L1 R1 with
 | case1 R =>
  induction R with
  | nil=>rfl
  | cons b R ih =>
   cases L2 with
   | nil=>simp
   | cons a L2 =>
    have:=h2 b (by simp) a (by simp)
    simp only[List.nil_append,List.cons_append] at *
    rw[qa6,if_pos this,ih (fun x hx=>h2 x (by simp[hx]))]
 | case2 a L =>
  generalize hA:a::L=A at *
  clear hA
  induction A with
  | nil=>rfl
  | cons a A ih =>
   cases R2 with
   | nil=>simp
   | cons b R2 =>
    have:=h1 a (by simp) b (by simp)
    simp only[List.nil_append,List.cons_append] at *
    rw[qa6,if_neg this,ih (fun x hx=>h1 x (by simp[hx]))]
 | case3 a L b R h ih =>
  simp only[List.cons_append] at *
  rw[qa6,if_pos h,ih h1 (fun x hx=>h2 x (by simp[hx]))]
 | case4 a L b R h ih =>
  simp only[List.cons_append] at *
  rw[qa6,if_neg h,ih (fun x hx=>h1 x (by simp[hx])) h2]
theorem qvg (h:TP c) {L R:List α} (hL:Srt c L) (hR:Srt c R):Srt c (mrg c L R):=by
 fun_induction mrg c L R with
 | case1 R=>exact hR
 | case2 a L=>exact hL
 | case3 a L b R hc ih =>
  have k:=List.pairwise_cons.1 hR
  refine List.pairwise_cons.2 ⟨fun x hx=>?_,ih hL k.2⟩
  rcases List.mem_append.1 ((qey _ _).mem_iff.1 hx) with hx|hx
  ·rcases List.mem_cons.1 hx with rfl|hx
   ·omega
   ·exact h.trans _ _ _ (by omega) ((List.pairwise_cons.1 hL).1 x hx)
  ·exact k.1 x hx
 | case4 a L b R hc ih =>
  have k:=List.pairwise_cons.1 hL
  refine List.pairwise_cons.2 ⟨fun x hx=>?_,ih k.2 hR⟩
  have hab:=h.nlt.1 hc
  rcases List.mem_append.1 ((qey _ _).mem_iff.1 hx) with hx|hx
  ·exact k.1 x hx
  ·rcases List.mem_cons.1 hx with rfl|hx
   ·exact hab
   ·exact h.trans _ _ _ hab ((List.pairwise_cons.1 hR).1 x hx)
theorem qr8 (h:TP c) (a:α) (X Y:List α):ins1 c a (mrg c X Y)=mrg c (ins1 c a X) Y:=by
 fun_induction mrg c X Y with
 | case1 Y =>
  induction Y with
  | nil=>simp[ins1]
  | cons y Y ih =>
   simp only[ins1] at ih ⊢
   rw[qa6]
   by_cases q:c a y≤0
   ·rw[if_pos q,if_neg (h.nlt.2 q),qos]
   ·rw[if_neg q,if_pos (by have:=h.flip a y;omega),ih]
 | case2 x X=>simp
 | case3 x X y Y hc ih =>
  simp only[ins1] at ih ⊢
  by_cases q:c a x≤0
  ·rw[if_pos q] at ih ⊢
   rw[qa6]
   by_cases p:c a y≤0
   ·rw[if_pos p,if_neg (h.nlt.2 p),qa6,if_pos hc]
   ·rw[if_neg p,if_pos (by have:=h.flip a y;omega),ih]
  ·rw[if_neg q] at ih ⊢
   have p:¬c a y≤0:=by
    intro p
    have:=h.le_lt p hc;omega
   rw[if_neg p,qa6,if_pos hc,ih]
 | case4 x X y Y hc ih =>
  simp only[ins1]
  by_cases q:c a x≤0
  ·rw[if_pos q,if_pos q,qa6,if_neg,qa6,if_neg hc]
   exact h.nlt.2 (h.trans _ _ _ q (h.nlt.1 hc))
  ·rw[if_neg q,if_neg q,qa6,if_neg hc,ih]
theorem qez (h:TP c) (L R:List α):isrt c (L++R)=mrg c (isrt c L) (isrt c R):=by
 induction L with
 | nil=>simp[isrt]
 | cons a L ih=>simp only[List.cons_append,isrt,ih,qr8 h]
theorem qd0 (h:TP c) (l:List α):Srt c (isrt c l):=by
 induction l with
 | nil=>simp[isrt,Srt]
 | cons a r ih =>
  have:isrt c (a::r)=mrg c [a] (isrt c r):=by rw[← List.singleton_append,qez h];rfl
  rw[this]
  exact qvg h (by simp[Srt]) ih
theorem qot (h:TP c) (L:List α) (x:α):isrt c (L++[x])=mrg c (isrt c L) [x]:=qez h L [x]
theorem qou {L R:List α} (h1:∀a∈L,∀b∈R,¬c b a<0):mrg c L R=L++R:=by
 have:=qdz (c:=c) (L1:=L) (L2:=[]) (R1:=[]) (R2:=R) h1 (by simp)
 simpa using this
theorem qov {U V:List α} {x:α} (h1:∀a∈U,¬c x a<0) (h2:∀a∈V,c x a<0):mrg c (U++V) [x]=U++x::V:=by
 have:=qdz (c:=c) (L1:=U) (L2:=V) (R1:=[x]) (R2:=[]) (by simp) (by simpa using h2)
 rw[List.append_nil] at this
 rw[this,qou (by simpa using h1)];simp
theorem qr9 {U V:List α} {x:α} (h1:∀a∈U,c a x<0) (h2:∀a∈V,¬c a x<0):mrg c [x] (U++V)=U++x::V:=by
 have:=qdz (c:=c) (L1:=[]) (L2:=[x]) (R1:=U) (R2:=V) (by simp) (by simpa using h1)
 rw[List.nil_append] at this
 rw[this,qos,qou (by simpa using h2)];simp
end
end Go.AI
end
section
namespace Go.AI
section
variable {α:Type}
def qhp (D:List α) (i j:Nat):List α:=match D[i]?,D[j]? with
 | some x,some y=>(D.set i y).set j x
 | _,_=>D
theorem qcj {D:List α} {i j:Nat} {x y:α} (h1:D[i]? = some x) (h2:D[j]? = some y):qhp D i j=(D.set i y).set j x:=by
 unfold qhp;rw[h1,h2]
@[simp] theorem qow {D:List α} {i j:Nat}:(qhp D i j).length=D.length:=by
 unfold qhp;split<;>simp
def swapN (D:List α) (x y:Nat):Nat→List α
 | 0=>D
 | n+1=>qhp (swapN D x y n) (x+n) (y+n)
@[simp] theorem qye {D:List α} {x y n:Nat}:(swapN D x y n).length=D.length:=by
 induction n with
 | zero=>rfl
 | succ n ih=>rw[swapN,qow,ih]
theorem qsa {A B C:List α} {a d:α}:qhp (A++a::(B++d::C)) A.length (A.length+(B.length+1))=A++d::(B++a::C):=by
 have:=two (A:=A) (B:=B) (C:=C) (a:=a) (d:=d) rfl rfl
 rw[qcj this.1 this.2.1,this.2.2]
theorem qhq {pre U mid V post:List α} {n:Nat} (hU:U.length=n) (hV:V.length=n) :
  swapN (pre++(U++(mid++(V++post)))) pre.length (pre.length+(n+mid.length)) n=pre++(V++(mid++(U++post))):=by
 have key:∀k,k≤n→swapN (pre++(U++(mid++(V++post)))) pre.length (pre.length+(n+mid.length)) k=pre++((V.take k++U.drop k)++(mid++((U.take k++V.drop k)++post))):=by
  intro k hk
  induction k with
  | zero=>simp[swapN]
  | succ k ih =>
   rw[swapN,ih (by omega)]
   obtain⟨u,hu⟩:∃u,U.drop k=u::U.drop (k+1):=⟨_,List.drop_eq_getElem_cons (by omega)⟩
   obtain⟨v,hv⟩:∃v,V.drop k=v::V.drop (k+1):=⟨_,List.drop_eq_getElem_cons (by omega)⟩
   have hu2:U.take (k+1)=U.take k++[u]:=by
    have e:U[k]? = some u:=by rw[← List.head?_drop,hu];rfl
    rw[List.take_succ,e];rfl
   have hv2:V.take (k+1)=V.take k++[v]:=by
    have e:V[k]? = some v:=by rw[← List.head?_drop,hv];rfl
    rw[List.take_succ,e];rfl
   rw[hu,hv,hu2,hv2]
   have:=qsa (A:=pre++V.take k) (a:=u) (B:=U.drop (k+1)++(mid++U.take k)) (d:=v) (C:=V.drop (k+1)++post)
   have e1:(pre++V.take k).length=pre.length+k:=by simp;omega
   have e2:pre.length+k+((U.drop (k+1)++(mid++U.take k)).length+1)=pre.length+(n+mid.length)+k:=by simp;omega
   rw[e1,e2] at this
   simpa using this
 have:=key n (Nat.le_refl _)
 rw[this,List.take_of_length_le (by omega),List.take_of_length_le (by omega),List.drop_of_length_le (by omega),List.drop_of_length_le (by omega)]
 simp
theorem bubL {pre S rest:List α} {x y:α} {u:Nat} (h:S[u]? = some y) :
  (pre++(S.take (u+1)++x::(S.drop (u+1)++rest)))[pre.length+u]? = some y∧(pre++(S.take (u+1)++x::(S.drop (u+1)++rest)))[pre.length+(u+1)]? = some x ∧
  qhp (pre++(S.take (u+1)++x::(S.drop (u+1)++rest))) (pre.length+(u+1)) (pre.length+u)=pre++(S.take u++x::(S.drop u++rest)):=by
 have hl:u<S.length:=(List.getElem?_eq_some_iff.1 h).1
 have hd:S.drop u=y::S.drop (u+1):=by rw[List.drop_eq_getElem_cons hl];congr 1;exact (List.getElem?_eq_some_iff.1 h).2
 have ht:S.take (u+1)=S.take u++[y]:=by rw[List.take_succ,h];rfl
 rw[ht,hd]
 have e:pre++(S.take u++[y]++x::(S.drop (u+1)++rest))=(pre++S.take u)++y::([]++x::(S.drop (u+1)++rest)):=by simp
 have e1:(pre++S.take u).length=pre.length+u:=by simp;omega
 have:=two (A:=pre++S.take u) (B:=[]) (C:=S.drop (u+1)++rest) (a:=y) (d:=x) (i:=pre.length+u) (j:=pre.length+(u+1)) (by omega) (by simp;omega)
 rw[e]
 refine⟨this.1,this.2.1,?_⟩
 rw[qcj this.2.1 this.1,List.set_comm _ _ (by omega),this.2.2]
 simp
theorem bubR {pre S rest:List α} {x y:α} {u:Nat} (h:S[u]? = some y) :
  (pre++(S.take u++x::(S.drop u++rest)))[pre.length+u]? = some x∧(pre++(S.take u++x::(S.drop u++rest)))[pre.length+(u+1)]? = some y ∧
  qhp (pre++(S.take u++x::(S.drop u++rest))) (pre.length+u) (pre.length+(u+1))=pre++(S.take (u+1)++x::(S.drop (u+1)++rest)):=by
 have hl:u<S.length:=(List.getElem?_eq_some_iff.1 h).1
 have hd:S.drop u=y::S.drop (u+1):=by rw[List.drop_eq_getElem_cons hl];congr 1;exact (List.getElem?_eq_some_iff.1 h).2
 have ht:S.take (u+1)=S.take u++[y]:=by rw[List.take_succ,h];rfl
 rw[ht,hd]
 have e:pre++(S.take u++x::(y::S.drop (u+1)++rest))=(pre++S.take u)++x::([]++y::(S.drop (u+1)++rest)):=by simp
 have e1:(pre++S.take u).length=pre.length+u:=by simp;omega
 have:=two (A:=pre++S.take u) (B:=[]) (C:=S.drop (u+1)++rest) (a:=x) (d:=y) (i:=pre.length+u) (j:=pre.length+(u+1)) (by omega) (by simp;omega)
 rw[e]
 refine⟨this.1,this.2.1,?_⟩
 rw[qcj this.1 this.2.1,this.2.2]
 simp
theorem qcy {c:α→α→Int} (h:TP c) {L:List α} (hs:Srt c L) {i j:Nat} {x y:α} (hij:i≤j) (hx:L[i]? = some x) (hy:L[j]? = some y):c x y≤0:=by
 obtain⟨h1,rfl⟩:=List.getElem?_eq_some_iff.1 hx
 obtain⟨h2,rfl⟩:=List.getElem?_eq_some_iff.1 hy
 rcases Nat.lt_or_ge i j with q|q
 ·exact List.pairwise_iff_getElem.1 hs i j h1 h2 q
 ·obtain rfl:i=j:=by omega
  rw[h.refl];omega
theorem qbz {L:List α} {k:Nat} {x:α} (h:x∈L.take k):∃i,i<k∧L[i]? = some x:=by
 obtain⟨i,hi⟩:=List.mem_iff_getElem?.1 h
 rw[List.getElem?_take] at hi
 split at hi
 ·exact⟨i,‹_›,hi⟩
 ·cases hi
theorem qb0 {L:List α} {k:Nat} {x:α} (h:x∈L.drop k):∃i,k≤i∧L[i]? = some x:=by
 obtain⟨i,hi⟩:=List.mem_iff_getElem?.1 h
 rw[List.getElem?_drop] at hi
 exact⟨k+i,by omega,hi⟩
def qt0 (c:α→α→Int) (L R:List α) (s t:Nat):Prop:=∃x y,L[s-1]? = some x∧R[t]? = some y∧¬c y x<0
def qt1 (c:α→α→Int) (L R:List α) (s t:Nat):Prop:=∃x y,L[s]? = some x∧R[t-1]? = some y∧c y x<0
theorem qvh {c:α→α→Int} (h:TP c) {L R:List α} (hL:Srt c L) (hR:Srt c R) {s t:Nat}
  (h1:s=0∨R.length≤t∨qt0 c L R s t) (h2:t=0∨L.length≤s∨qt1 c L R s t) :
  mrg c L R=mrg c (L.take s) (R.take t)++mrg c (L.drop s) (R.drop t):=by
 conv=>lhs;rw[← List.take_append_drop s L,← List.take_append_drop t R]
 refine qdz (fun a ha b hb=>?_) (fun b hb a ha=>?_)
 ·obtain⟨i,hi,ha⟩:=qbz ha
  obtain⟨j,hj,hb⟩:=qb0 hb
  rcases h1 with rfl|h1|⟨x,y,hx,hy,hxy⟩
  ·omega
  ·have:=(List.getElem?_eq_some_iff.1 hb).1;omega
  ·exact h.nlt.2 (h.trans _ _ _ (qcy h hL (by omega) ha hx) (h.trans _ _ _ (h.nlt.1 hxy) (qcy h hR hj hy hb)))
 ·obtain⟨i,hi,hb⟩:=qbz hb
  obtain⟨j,hj,ha⟩:=qb0 ha
  rcases h2 with rfl|h2|⟨x,y,hx,hy,hxy⟩
  ·omega
  ·have:=(List.getElem?_eq_some_iff.1 ha).1;omega
  ·exact h.le_lt (qcy h hR (by omega) hb hy) (h.lt_le hxy (qcy h hL hj hx ha))
theorem qlf {c:α→α→Int} {L:List α} (h:Srt c L) (k:Nat):Srt c (L.take k):=List.Pairwise.sublist (List.take_sublist k L) h
theorem qlg {c:α→α→Int} {L:List α} (h:Srt c L) (k:Nat):Srt c (L.drop k):=List.Pairwise.sublist (List.drop_sublist k L) h
def blk (c:α→α→Int) (k:Nat) (L:List α):List α:=if h:k=0∨L.length≤k then isrt c L else isrt c (L.take k)++blk c k (L.drop k)
termination_by L.length
decreasing_by simp;omega
theorem qa1 {c:α→α→Int} {k:Nat} {L:List α} (h:L.length≤k):blk c k L=isrt c L:=by rw[blk,dif_pos (.inr h)]
theorem blk_step {c:α→α→Int} {k:Nat} (hk:0<k) (L:List α):blk c k L=isrt c (L.take k)++blk c k (L.drop k):=by
 by_cases h:L.length≤k
 ·rw[qa1 h,List.take_of_length_le h,List.drop_of_length_le h,qa1 (by simp)];simp[isrt]
 ·rw[blk,dif_neg (by omega)]
theorem qox {c:α→α→Int} {k:Nat} (hk:0<k) (q:Nat):∀(P Q:List α),P.length=k*q→blk c k (P++Q)=blk c k P++blk c k Q:=by
 induction q with
 | zero =>
  intro P Q h
  have:P=[]:=List.length_eq_zero_iff.1 (by omega)
  subst this
  simp[qa1,isrt]
 | succ q ih =>
  intro P Q h
  rw[Nat.mul_succ] at h
  rw[blk_step hk (P++Q),blk_step hk P,List.take_append_of_le_length (by omega),List.drop_append_of_le_length (by omega),ih (P.drop k) Q (by simp;omega),List.append_assoc]
theorem blk_len {c:α→α→Int} {k:Nat} (L:List α):(blk c k L).length=L.length:=by
 fun_induction blk c k L with
 | case1=>exact q9 _
 | case2 L h ih=>simp only[List.length_append,q9,ih];simp;omega
theorem qlh {c:α→α→Int} {k a:Nat} (hk:0<k) {L:List α} (q:Nat) (ha:a=k*q) (h:a+k≤L.length):blk c k (L.take (a+k))=blk c k (L.take a)++isrt c ((L.drop a).take k):=by
 rw[List.take_add,qox hk q _ _ (by simp;omega),qa1 (L:=(L.drop a).take k) (by simp;omega)]
theorem qli {c:α→α→Int} {k a:Nat} (hk:0<k) {L:List α} (q:Nat) (ha:a=k*q) (h:a≤L.length) (h2:L.length≤a+k):blk c k L=blk c k (L.take a)++isrt c (L.drop a):=by
 conv=>lhs;rw[← List.take_append_drop a L]
 rw[qox hk q _ _ (by simp;omega),qa1 (L:=L.drop a) (by simp;omega)]
def rowE (E:α→List AV) (L:List α):List AV:=L.flatMap E
variable {E:α→List AV} {sz:Nat}
theorem qhr (hE:∀x,(E x).length=sz) (L:List α):(rowE E L).length=L.length*sz:=by
 induction L with
 | nil=>simp[rowE]
 | cons a L ih=>simp only[rowE,List.flatMap_cons,List.length_append,List.length_cons,hE] at ih ⊢;rw[ih,Nat.add_mul];omega
theorem qg6 (hE:∀x,(E x).length=sz) {L:List α} {i:Nat} {x:α} (h:L[i]? = some x) :
  (rowE E L).take (i*sz)=rowE E (L.take i)∧(rowE E L).drop (i*sz)=E x++rowE E (L.drop (i+1)):=by
 have hl:i<L.length:=(List.getElem?_eq_some_iff.1 h).1
 have hd:L.drop i=x::L.drop (i+1):=by rw[List.drop_eq_getElem_cons hl];congr 1;exact (List.getElem?_eq_some_iff.1 h).2
 have e:rowE E L=rowE E (L.take i)++rowE E (L.drop i):=by
  conv=>lhs;rw[← List.take_append_drop i L]
  unfold rowE;rw[List.flatMap_append]
 have e1:(rowE E (L.take i)).length=i*sz:=by rw[qhr hE];simp;rw[Nat.min_eq_left (by omega)]
 constructor
 ·rw[e,← e1,List.take_left]
 ·rw[e,← e1,List.drop_left,hd];rfl
theorem qlj (hE:∀x,(E x).length=sz) (hd:∀x,(E x).map dem=E x) {L:List α} {i:Nat} {x:α} (h:L[i]? = some x):(((rowE E L).drop (i*sz)).take sz).map dem=E x:=by
 rw[(qg6 hE h).2,← hE x,List.take_left,hd]
theorem qsb (hE:∀x,(E x).length=sz) {L:List α} {i:Nat} {y:α} (h:i<L.length) :
  (rowE E L).take (i*sz)++(E y++(rowE E L).drop (i*sz+sz))=rowE E (L.set i y):=by
 obtain⟨x,hx⟩:∃x,L[i]? = some x:=⟨_,List.getElem?_eq_getElem h⟩
 have:=qg6 hE hx
 rw[this.1,← List.drop_drop,this.2,List.drop_left' (hE x),List.set_eq_take_append_cons_drop,if_pos h]
 unfold rowE;rw[List.flatMap_append,List.flatMap_cons]
theorem qoy {n:Nat} (hE:∀x,lowL n (E x)) (L:List α):lowL n (rowE E L):=by
 induction L with
 | nil=>trivial
 | cons a L ih=>unfold rowE at *;rw[List.flatMap_cons,qj6];exact⟨hE a,ih⟩
theorem qck {σ:List (List AV)} {b:Nat} {X Y:List AV} (h:lowL σ.length Y):lowS (σ.set b X) (σ.set b Y):=by
 intro b' hb
 by_cases q:b=b'
 ·subst q;exact .inr ⟨Y,by simp at hb;simp[hb],by simpa using h⟩
 ·exact .inl (by rw[List.getElem?_set,if_neg q,List.getElem?_set,if_neg q])
end
end Go.AI
end
section
namespace Go.AI
end Go.AI
end
section
namespace Go.AI
open Go.RowKit
set_option linter.unusedVariables false
abbrev Panics:=FuncId→List AV→List (List AV)→AV→Prop
def APan (P:Program) (B:Nat) (W0:World) (f:FuncId) (as:List AV) (s:List (List AV)) (r:AV):Prop :=
 ∀(T:Nat→Prop) (μ:Gh) (w:World) (vs:Array Value),vs.size=as.length→Below B W0 w →
  Sim B T μ w vs.size μ (fun _=>none) ⟨vs,[]⟩ w ⟨params 0 as,[],s⟩ →
  Calls P f vs w fun e w'=>∃v μ' s',e=.panicked [{v:=v,recovered:=false}]∧Sim B T μ w 1 μ' (fun _=>none) ⟨#[v],[]⟩ w' ⟨[(0,r)],[],s'⟩
def bndP {α:Type} (x:Option α) (f:α→Prop):Prop :=
 match x with
 | some a=>f a
 | none=>False
theorem qat {α:Type} {x:Option α} {f:α→Prop} (h:bndP x f):∃a,x=some a∧f a:=by
 cases x with
 | none=>exact h.elim
 | some a=>exact⟨a,rfl,h⟩
@[simp] theorem qbt {α:Type} {a:α} {f:α→Prop}:bndP (some a) f=f a:=rfl
@[congr] theorem qxa {α:Type} {x y:Option α} {f:α→Prop} (e:x=y):bndP x f=bndP y f:=by rw[e]
def isIfc:AV→Bool
 | .ifc _ _=>true
 | _=>false
def panOp (hh:Hint) (CP:Panics) (o:Oper) (st:St) (r:AV):Prop :=
 match o.op with
 | .panic x=>bndP (aeval st x) fun v=>isIfc v=true∧v=r
 | .call c=>match c.callee with
  | .value f=>bndP (aeval st f) fun g=>match g with
   | .fn g cap=>g<100000∧bndP (aevals st c.args.toList) fun as=>bndP (args as) fun as=>CP (vary hh o.dst g) (as++cap) st.s r
   | .fb g fs=>g<100000∧bndP (aevals st c.args.toList) fun as=>bndP (args as) fun as=>CP (vary hh o.dst g) (fs++as) st.s r
   | _=>False
  | _=>False
 | _=>False
def PanOk (P:Program) (B:Nat) (W0:World) (CP:Panics):Prop :=
 ∀f as s r,CP f as s r→Enters P (AI.base f)∧APan P B W0 (AI.base f) as s r
section
variable {P:Program} {B:Nat} {T0:Nat→Prop} {μ0:Gh} {w0:World} {N:Nat} {μ:Gh} {lx:Nat→Option Nat} {a:Act} {w:World} {st:St} {hh:Hint} {C:Oracle} {CP:Panics} {W0:World}
def PQ (B:Nat) (T0:Nat→Prop) (μ0:Gh) (w0:World) (N:Nat) (r:AV) (Q:Exit→Act→World→Prop):Prop :=
 ∀(μ':Gh) (lx':Nat→Option Nat) (a':Act) (w':World) (st':St) (v:Value),Sim B T0 μ0 w0 N μ' lx' a' w' st'→Res B T0 w0 μ' lx' a' w' st' v r→(∀d i,r≠.lp d i)→Q (.panic [{v:=v,recovered:=false}]) a' w'
def PQt (B:Nat) (T0:Nat→Prop) (μ0:Gh) (w0:World) (N:Nat) (r:AV) (t:List (Nat×AV)) (Q:Exit→Act→World→Prop):Prop :=
 ∀(μ':Gh) (lx':Nat→Option Nat) (a':Act) (w':World) (st':St) (v:Value),Sim B T0 μ0 w0 N μ' lx' a' w' st'→Res B T0 w0 μ' lx' a' w' st' v r→(∀d i,r≠.lp d i)→st'.t=t→Q (.panic [{v:=v,recovered:=false}]) a' w'
theorem PQ.t {r:AV} {t:List (Nat×AV)} {Q:Exit→Act→World→Prop} (k:PQ B T0 μ0 w0 N r Q):PQt B T0 μ0 w0 N r t Q:=fun μ' lx' a' w' st' v h1 h2 h3 _=>k μ' lx' a' w' st' v h1 h2 h3
theorem qlk {o:Oper} {K:Act→World→Prop} {Q:Exit→Act→World→Prop} {gf:FuncId} {vs:Array Value} {as:List AV} {r:AV} (h:Sim B T0 μ0 w0 N μ lx a w st) (hW:Below B W0 w0) (hsz:vs.size=as.length)
  (hval:∀(j:Nat) (c:AV),as[j]? = some c→Rep B μ w (vs.getD j undef) c∧pers c=true∧quiet c=true)
  (hex:(execOp a.eval o).run P w=.ok (.enter gf vs) w) (hC:APan P B W0 gf as st.s r) (k:PQt B T0 μ0 w0 N r st.t Q):o.wp P a w K Q:=by
 have hent:=h.entry hsz hval
 have hcall:=hC (fun k=>held a lx μ w st k∨noX k) μ w vs hsz (hW.trans h.ext.below) hent
 unfold Oper.wp
 rw[hex]
 show Calls P gf vs w _
 refine hcall.mono fun e w' hw'=>?_
 obtain⟨v,μ',s',rfl,hs⟩:=hw'
 obtain⟨s1,s2⟩:=h.call (fun _ hk=>hk.elim) hs
 refine k μ' lx a w' _ v s1 s2 (fun d i e=>?_) rfl
 subst e
 obtain⟨blk,hb,_⟩:=hs.tmp 0 (.lp d i) (by simp[look])
 cases hb
theorem qds {o : Oper} {K : Act → World → Prop} {Q : Exit → Act → World → Prop} {r : AV} (h : Sim B T0 μ0 w0 N μ lx a w st) (hW : Below B W0 w0) (hP : PanOk P B W0 CP) (e : panOp hh CP o st r) (k : PQt B T0 μ0 w0 N r st.t Q) : o.wp P a w K Q := by
  obtain ⟨d, op, T, pos, af, g⟩ := o
  cases op with
  | panic x =>
    simp only [panOp] at e
    obtain ⟨v, hv, hi, e⟩ := qat e
    subst e
    have hr := qdu (B := B) (T0 := T0) (w0 := w0) h hv
    cases v with
    | ifc t u =>
      have hf := (qj h hv).1
      generalize hx : a.eval x = xv at hf hr
      cases hf with
      | ifc _ v' _ hh' =>
        unfold Oper.wp
        have hex : (execOp a.eval ⟨d, .panic x, T, pos, af, g⟩).run P w = .halt (.panic (.iface t v')) w := by
          simp [execOp, hx, Instr.panic, goPanic]
        rw [hex]
        exact k μ lx a w st _ h hr (by simp) rfl
    | _ => cases hi
  | call c =>
    obtain ⟨ce, xs, ts⟩ := c
    cases ce with
    | value f =>
      simp only [panOp] at e
      obtain ⟨gv, hg, e⟩ := qat e
      cases gv with
      | fn gf cap =>
        simp only at e
        obtain ⟨h1, e⟩ := e
        obtain ⟨us, hu, e⟩ := qat e
        obtain ⟨vs, hv, e⟩ := qat e
        obtain ⟨hE, hC⟩ := hP _ _ _ _ e
        rw [qcu h1] at hE hC
        obtain ⟨a1, a2⟩ := qax h hu hv
        have hr := (qj h hg).1
        generalize hx : a.eval f = fv at hr
        cases hr with
        | fn gf caps cs hl hp hh =>
          have hsz : (xs.map a.eval ++ caps).size = (vs ++ cap).length := by
            simp only [Array.size_append, Array.size_map, List.length_append, hl]
            have : xs.toList.length = xs.size := by simp
            omega
          refine qlk h hW hsz (fun j c hc => ?_) (by simp [execOp, resolve, hx, Deferred.ofValue, invoke, qau hE]) hC k
          have hxl : xs.size = vs.length := by have : xs.toList.length = xs.size := by simp
                                               omega
          by_cases hj : j < vs.length
          · rw [List.getElem?_append_left hj] at hc
            have := a2 j c hc
            have e : (xs.map a.eval ++ caps).getD j undef = ((xs.toList.map a.eval).toArray).getD j undef := by
              simp only [Array.getD_eq_getD_getElem?]
              rw [Array.getElem?_append_left (by simp; omega)]
              simp
            rw [e]
            exact ⟨this.1, this.2.2.2⟩
          · rw [List.getElem?_append_right (by omega)] at hc
            have e : (xs.map a.eval ++ caps).getD j undef = caps.getD (j - vs.length) undef := by
              simp only [Array.getD_eq_getD_getElem?]
              rw [Array.getElem?_append_right (by simp; omega)]
              simp [hxl]
            rw [e]
            exact ⟨hh _ c hc, hp c (List.mem_of_getElem? hc)⟩
      | fb gf cap =>
        simp only at e
        obtain ⟨h1, e⟩ := e
        obtain ⟨us, hu, e⟩ := qat e
        obtain ⟨vs, hv, e⟩ := qat e
        obtain ⟨hE, hC⟩ := hP _ _ _ _ e
        rw [qcu h1] at hE hC
        obtain ⟨a1, a2⟩ := qax h hu hv
        have hr := (qj h hg).1
        generalize hx : a.eval f = fv at hr
        cases hr with
        | fb gf caps cs hl hp hh =>
          have hsz : (caps ++ xs.map a.eval).size = (cap ++ vs).length := by
            simp only [Array.size_append, Array.size_map, List.length_append, hl]
            have : xs.toList.length = xs.size := by simp
            omega
          refine qlk h hW hsz (fun j c hc => ?_) (by simp [execOp, resolve, hx, Deferred.ofValue, invoke, qau hE]) hC k
          by_cases hj : j < cap.length
          · rw [List.getElem?_append_left hj] at hc
            have e : (caps ++ xs.map a.eval).getD j undef = caps.getD j undef := by
              simp only [Array.getD_eq_getD_getElem?]
              rw [Array.getElem?_append_left (by omega)]
            rw [e]
            exact ⟨hh _ c hc, hp c (List.mem_of_getElem? hc)⟩
          · rw [List.getElem?_append_right (by omega)] at hc
            have := a2 _ c hc
            have e : (caps ++ xs.map a.eval).getD j undef = ((xs.toList.map a.eval).toArray).getD (j - cap.length) undef := by
              simp only [Array.getD_eq_getD_getElem?]
              rw [Array.getElem?_append_right (by omega), hl]
              simp
            rw [e]
            exact ⟨this.1, this.2.2.2⟩
      | _ => exact e.elim
    | _ => simp only [panOp] at e
  | _ => simp only [panOp] at e
theorem qi6 {ops:Array Oper} {Q:Exit→Act→World→Prop} {r:AV} (hW:Below B W0 w0) (hC:OracleOk P B W0 C) (hP:PanOk P B W0 CP) (k:PQ B T0 μ0 w0 N r Q):∀(l l':List Oper) (o:Oper) {st st':St} {μ:Gh} {lx:Nat→Option Nat} {a:Act} {w:World},
  Sim B T0 μ0 w0 N μ lx a w st→opsOk N l=true→runOps P hh C ops.toList l st=some st'→wantedA ops.toList o.guard st'=some true→panOp hh CP o st' r→wpList P ops Q (l++o::l') a w:=by
 intro l l' o
 induction l with
 | nil =>
  intro st st' μ lx a w h _ e hw hp
  injection e with e;subst e
  simp only[List.nil_append,wpList]
  rw[qaf h hw]
  exact .inl (qds h hW hP hp k.t)
 | cons p r ih =>
  intro st st' μ lx a w h hok e hwo hp
  simp only[opsOk,Bool.and_eq_true] at hok
  have hd:∀n,p.dst=some n→n<N:=fun n hn=>by have:=hok.1;rw[hn] at this;simpa using this
  simp only[runOps] at e
  simp only[List.cons_append,wpList]
  cases hw:wantedA ops.toList p.guard st with
  | none=>rw[hw] at e;cases e
  | some b =>
   rw[hw] at e
   rw[qaf h hw]
   cases b with
   | true =>
    simp only[sel] at e
    obtain⟨st1,h1,e⟩:=qa e
    refine .inl (qbn h hW hC hd h1 _ _ fun μ' lx' a' w' hs=>ih hs hok.2 e hwo hp)
   | false =>
    simp only[sel] at e
    simp only[Bool.false_eq_true,if_false]
    exact ih (qb7 h hd) hok.2 e hwo hp
theorem qmg (hm : P.follows .mixedOrders = true) {ops : Array Oper} {Q : Exit → Act → World → Prop} {r : AV} {id : Nat} {l : List Oper} {o : Oper} {st' : St} (hW : Below B W0 w0) (hC : OracleOk P B W0 C) (hP : PanOk P B W0 CP) (k : PQ B T0 μ0 w0 N r Q)
    (h : Sim B T0 μ0 w0 N μ lx a w st) (hok : drawOk hh ops = true) (hN : opsOk N ops.toList = true) (hl : ops.toList = l ++ [o]) (hb : (List.range l.length).all (fun j => befL ops.toList j l.length) = true)
    (e : runD P hh C (allocDs ops.toList) ops.toList l (startD (allocDs ops.toList) st) = some st') (hw : wantedA ops.toList o.guard st' = some true) (ho : okAll (allocDs ops.toList) st'.t (wrT hh o) = true) (hp : panOp hh CP o st' r) : (Code.region id ops true).wp P Q a w := by
  obtain ⟨f, h1, h2, h3⟩ := qgy _ e
  have hsz : ops.size = l.length + 1 := by have : ops.toList.length = ops.size := by simp
                                           rw [← this, hl]; simp
  have hlast : ops.toList[l.length]? = some o := by rw [hl]; simp
  obtain ⟨F, hF⟩ : ∃ F : Nat → St, F = fun i => if i ≤ l.length then f i else st' := ⟨_, rfl⟩
  have F0 : F 0 = startD (allocDs ops.toList) st := by rw [hF]; show (if 0 ≤ l.length then f 0 else st') = _; rw [if_pos (Nat.zero_le _), h1]
  have FL : F l.length = st' := by rw [hF]; show (if l.length ≤ l.length then f l.length else st') = _; rw [if_pos (Nat.le_refl _), h2]
  have FS : F (l.length + 1) = st' := by rw [hF]; show (if l.length + 1 ≤ l.length then _ else st') = _; rw [if_neg (by omega)]
  have hD : ∀ (i : Nat) (p : Oper), ops.toList[i]? = some p → i ≠ l.length → StepD P hh C (allocDs ops.toList) ops.toList p (F i) (F (i + 1)) := by
    intro i p hpi hne
    have hlt : i < l.length := by
      have := (List.getElem?_eq_some_iff.1 hpi).1
      rw [hl] at this; simp at this; omega
    have hpl : l[i]? = some p := by rw [hl, List.getElem?_append_left hlt] at hpi; exact hpi
    have := h3 i p hpl
    rw [hF]; simp only [show i ≤ l.length by omega, if_true, show i + 1 ≤ l.length by omega]; exact this
  refine wp_region_any hm ?_
  have hdr : ({ w with drawn := w.drawn + 1 } : World) = w.drew := rfl
  rw [hdr]
  have hs0 : Sim B T0 μ0 w0 N μ lx a w.drew (F 0) := by
    rw [F0]
    have := h.drew.1
    obtain ⟨k1, k2⟩ := qbx (allocDs ops.toList) st.t h.nd
    exact this.sub (fun i v e => (k2 i v e).1) k1 fun d cs e => e
  have hno : ∀ i, (Array.replicate ops.size false).getD i false = false := fun i => by
    rw [Array.getD_eq_getD_getElem?]
    by_cases hi : i < ops.size <;> simp [hi]
  have hla : ∀ {α : Type} (W : Nat → Bool) (v : Nat → α) n, last (fun i => (Array.replicate ops.size false).getD i false) W v n = v 0 := by
    intro α W v n
    rcases qhh (S := fun i => (Array.replicate ops.size false).getD i false) (W := W) (v := v) n with e | ⟨k, _, hS, _⟩
    · exact e
    · simp only [hno] at hS; cases hS
  refine qfk (R := fun _ μ lx a w σ => Sim B T0 μ0 w0 N μ lx a w σ) hok (fun _ _ _ _ _ _ h => h) (fun listed i p a w μ lx σ σ' K hpi _ hSi hpre hs hstep next => ?_) (· = l.length) (fun i hi => ?_) (fun listed i p a w μ lx σ K hi hpi _ hs => ?_) (fun i p hpi => ?_) (fun i p hpi hne => hD i p hpi hne) hs0.nd ?_ (fun hn => absurd rfl (hn l.length))
    ops.size _ a _ μ lx (F 0) (by simp) ?_ ?_ (fun i _ => hno i) hs0 (fun x => (hla _ (fun k => look (F k).t x) _).symm) (fun d => (hla _ (fun k => look (F k).l d) _).symm) (hla _ (fun k => (F k).s) _).symm
  · have hdN := qi1 hN (i := i) (o := p) (by simpa using hpi)
    unfold wpOp
    rw [hpi]
    simp only
    rcases hstep with ⟨hw, hst⟩ | ⟨hw, hst⟩
    · rw [qaf hs hw]
      exact .inl (qbn hs hW hC hdN hst _ _ fun μ' lx' a' w' hsim => next a' w' μ' lx' hsim)
    · rw [qaf hs hw]
      simp only [Bool.false_eq_true, if_false]
      refine next _ _ μ lx ?_
      subst hst
      exact qb7 hs hdN
  · subst hi
    refine ⟨hsz.symm, fun j hj => ?_⟩
    exact List.all_eq_true.1 hb j (List.mem_range.2 hj)
  · subst hi
    have hpo : p = o := by
      have : ops.toList[l.length]? = some p := by simpa using hpi
      rw [hlast] at this; exact (Option.some.inj this).symm
    subst hpo
    rw [FL] at hs
    unfold wpOp
    rw [hpi]
    simp only
    rw [qaf hs hw]
    exact .inl (qds hs hW hP hp k.t)
  · by_cases hi : i = l.length
    · subst hi
      rw [hlast] at hpi; injection hpi with hpi; subst hpi
      refine .inr ⟨by rw [FL, FS], by rw [FL]; exact ho⟩
    · exact .inl (hD i p hpi hi)
  · intro i v e d hd
    rw [F0] at e
    exact ((qbx (allocDs ops.toList) st.t h.nd).2 i v e).2 d hd
  · have : ∀ n, cnt (fun i => (Array.replicate ops.size false).getD i false) n = n := by
      intro n
      induction n with
      | zero => rfl
      | succ n ih =>
        show cnt _ n + (if (Array.replicate ops.size false).getD n false = true then 0 else 1) = n + 1
        rw [ih, hno]; rfl
    exact this _
  · intro j o _ hj
    rw [hno] at hj; cases hj
inductive PX (P:Program) (hh:Hint) (C:Oracle) (CP:Panics):Code→St→AV→Prop
 | reg (i:Nat) (ops:Array Oper) (l l':List Oper) (o:Oper) (st st1:St) (r:AV) (hl:ops.toList=l++o::l') (e:runOps P hh C ops.toList l (clean0 hh st)=some st1) (hw:wantedA ops.toList o.guard st1=some true)
   (hp:panOp hh CP o st1 r):PX P hh C CP (.region i ops false) st r
 | regD (i:Nat) (ops:Array Oper) (l:List Oper) (o:Oper) (st st1:St) (r:AV) (hl:ops.toList=l++[o]) (hb:(List.range l.length).all (fun j=>befL ops.toList j l.length)=true)
   (e:runD P hh C (allocDs ops.toList) ops.toList l (startD (allocDs ops.toList) (clean0 hh st))=some st1) (hw:wantedA ops.toList o.guard st1=some true) (ho:okAll (allocDs ops.toList) st1.t (wrT hh o)=true) (hp:panOp hh CP o st1 r) :
   PX P hh C CP (.region i ops true) st r
 | seqL (x y:Code) (st:St) (r:AV) (h:PX P hh C CP x st r):PX P hh C CP (.seq x y) st r
 | seqR (x y:Code) (st st1:St) (r:AV) (h1:EXEC P hh C x st=some (.normal,st1)) (h:PX P hh C CP y st1 r):PX P hh C CP (.seq x y) st r
 | condT (c:Operand) (x y:Code) (st:St) (r:AV) (hc:aeval st c=some (.bool true)) (h:PX P hh C CP x st r):PX P hh C CP (.cond c x y) st r
 | condF (c:Operand) (x y:Code) (st:St) (r:AV) (hc:aeval st c=some (.bool false)) (h:PX P hh C CP y st r):PX P hh C CP (.cond c x y) st r
 | block (i:Nat) (c:Code) (st:St) (r:AV) (h:PX P hh C CP c st r):PX P hh C CP (.block i c) st r
 | loop0 (c:Code) (st:St) (r:AV) (h:PX P hh C CP c (head hh (rid c) st) r):PX P hh C CP (.loop c) st r
 | loop1 (c:Code) (st st1:St) (r:AV) (h1:EXEC P hh C c (head hh (rid c) st)=some (.normal,st1)) (h:PX P hh C CP (.loop c) st1 r):PX P hh C CP (.loop c) st r
theorem qsc (hm:P.follows .mixedOrders=true) (hW:Below B W0 w0) (hC:OracleOk P B W0 C) (hP:PanOk P B W0 CP) {c:Code} {st:St} {r:AV} (h:PX P hh C CP c st r):∀{μ:Gh} {lx:Nat→Option Nat} {a:Act} {w:World} {Q:Exit→Act→World→Prop},
  Sim B T0 μ0 w0 N μ lx a w st→codeOk hh N c=true→PQ B T0 μ0 w0 N r Q→c.wp P Q a w∧(∀c',c=.loop c'→LW P c' Q a w):=by
 induction h with
 | reg i ops l l' o st st1 r hl e hw hp =>
  intro μ lx a w Q hs hok k
  simp only[codeOk,Bool.and_eq_true,Bool.or_eq_true,Bool.not_eq_true'] at hok
  refine⟨wp_region_list ?_,fun c' e=>by cases e⟩
  have hokl:opsOk N l=true:=by
   have:=hok.1
   rw[hl] at this
   have go:∀l:List Oper,opsOk N (l++o::l')=true→opsOk N l=true:=by
    intro l
    induction l with
    | nil=>intro _;rfl
    | cons p q ih=>intro h;simp only[List.cons_append,opsOk,Bool.and_eq_true] at h ⊢;exact⟨h.1,ih h.2⟩
   exact go l this
  rw[hl]
  exact qi6 hW hC hP k l l' o hs.clean0 hokl e hw hp
 | regD i ops l o st st1 r hl hb e hw ho hp =>
  intro μ lx a w Q hs hok k
  simp only[codeOk,Bool.and_eq_true,Bool.or_eq_true,Bool.not_eq_true'] at hok
  exact⟨qmg hm hW hC hP k hs.clean0 (hok.2.resolve_left (by simp)) hok.1 hl hb e hw ho hp,fun c' e=>by cases e⟩
 | seqL x y st r h ih =>
  intro μ lx a w Q hs hok k
  simp only[codeOk,Bool.and_eq_true] at hok
  exact⟨wp_seq (ih (Q:=Exit.then (y.wp P Q) Q) hs hok.1 fun μ' lx' a' w' st' v h1 h2 h3=>k μ' lx' a' w' st' v h1 h2 h3).1,fun c' e=>by cases e⟩
 | seqR x y st st1 r h1 h ih =>
  intro μ lx a w Q hs hok k
  simp only[codeOk,Bool.and_eq_true] at hok
  refine⟨wp_seq ?_,fun c' e=>by cases e⟩
  obtain⟨m,hm1⟩:=(qq _).1 h1
  exact (qar hW hC (qaj hm) m x st hs hok.1 hm1 fun μ' lx' a' w' hs'=>(ih hs' hok.2 k).1).1
 | condT c x y st r hc h ih =>
  intro μ lx a w Q hs hok k
  simp only[codeOk,Bool.and_eq_true] at hok
  have hb:a.eval c=.bool true:=by
   have:=(qj hs hc).1
   generalize a.eval c=u at this
   cases this;rfl
  exact⟨wp_cond_true hb (ih hs hok.1 k).1,fun c' e=>by cases e⟩
 | condF c x y st r hc h ih =>
  intro μ lx a w Q hs hok k
  simp only[codeOk,Bool.and_eq_true] at hok
  have hb:a.eval c=.bool false:=by
   have:=(qj hs hc).1
   generalize a.eval c=u at this
   cases this;rfl
  exact⟨wp_cond_false hb (ih hs hok.2 k).1,fun c' e=>by cases e⟩
 | block i c st r h ih =>
  intro μ lx a w Q hs hok k
  simp only[codeOk] at hok
  exact⟨wp_block (ih (Q:=Exit.inBlock i Q) hs hok fun μ' lx' a' w' st' v h1 h2 h3=>k μ' lx' a' w' st' v h1 h2 h3).1,fun c' e=>by cases e⟩
 | loop0 c st r h ih =>
  intro μ lx a w Q hs hok k
  have hok':codeOk hh N c=true:=hok
  have hl:LW P c Q a w:=LW.round (ih (Q:=Exit.then (LW P c Q) Q) hs.head hok' fun μ' lx' a' w' st' v h1 h2 h3=>k μ' lx' a' w' st' v h1 h2 h3).1
  exact⟨hl.wp,fun c' e=>by injection e with e;subst e;exact hl⟩
 | loop1 c st st1 r h1 h ih =>
  intro μ lx a w Q hs hok k
  have hok':codeOk hh N c=true:=hok
  obtain⟨m,hm1⟩:=(qq _).1 h1
  have hl:LW P c Q a w:=LW.round (qar hW hC (qaj hm) m c _ hs.head hok' hm1 fun μ' lx' a' w' hs'=>(ih hs' hok k).2 c rfl).1
  exact⟨hl.wp,fun c' e=>by injection e with e;subst e;exact hl⟩
theorem qi7 {I:Type} {CPn:I→Panics} {o:Oper} {st:St} {r:AV} (i0:I) (e:panOp hh (fun f as s r=>∃n,CPn n f as s r) o st r):∃n,panOp hh (CPn n) o st r:=by
 obtain⟨d,op,T,pos,af,g⟩:=o
 cases op with
 | panic x=>exact⟨i0,e⟩
 | call c =>
  obtain⟨ce,xs,ts⟩:=c
  cases ce with
  | value f =>
   simp only[panOp] at e ⊢
   obtain⟨gv,hg,e⟩:=qat e
   cases gv with
   | fn gf cap =>
    obtain⟨h1,e⟩:=e
    obtain⟨us,hu,e⟩:=qat e
    obtain⟨vs,hv,n,e⟩:=qat e
    exact⟨n,by rw[hg,qbt];exact⟨h1,by rw[hu,qbt,hv,qbt];exact e⟩⟩
   | fb gf cap =>
    obtain⟨h1,e⟩:=e
    obtain⟨us,hu,e⟩:=qat e
    obtain⟨vs,hv,n,e⟩:=qat e
    exact⟨n,by rw[hg,qbt];exact⟨h1,by rw[hu,qbt,hv,qbt];exact e⟩⟩
   | _=>exact e.elim
  | _=>simp only[panOp] at e
 | _=>simp only[panOp] at e
theorem qyf {I:Type} {CPn:I→Panics} (i0:I) {c:Code} {st:St} {r:AV} (h:PX P hh C (fun f as s r=>∃n,CPn n f as s r) c st r):∃n,PX P hh C (CPn n) c st r:=by
 induction h with
 | reg i ops l l' o st st1 r hl e hw hp=>obtain⟨n,hn⟩:=qi7 i0 hp;exact⟨n,.reg i ops l l' o st st1 r hl e hw hn⟩
 | regD i ops l o st st1 r hl hb e hw ho hp=>obtain⟨n,hn⟩:=qi7 i0 hp;exact⟨n,.regD i ops l o st st1 r hl hb e hw ho hn⟩
 | seqL x y st r h ih=>obtain⟨n,hn⟩:=ih;exact⟨n,.seqL _ _ _ _ hn⟩
 | seqR x y st st1 r h1 h ih=>obtain⟨n,hn⟩:=ih;exact⟨n,.seqR _ _ _ _ _ h1 hn⟩
 | condT c x y st r hc h ih=>obtain⟨n,hn⟩:=ih;exact⟨n,.condT _ _ _ _ _ hc hn⟩
 | condF c x y st r hc h ih=>obtain⟨n,hn⟩:=ih;exact⟨n,.condF _ _ _ _ _ hc hn⟩
 | block i c st r h ih=>obtain⟨n,hn⟩:=ih;exact⟨n,.block _ _ _ _ hn⟩
 | loop0 c st r h ih=>obtain⟨n,hn⟩:=ih;exact⟨n,.loop0 _ _ _ hn⟩
 | loop1 c st st1 r h1 h ih=>obtain⟨n,hn⟩:=ih;exact⟨n,.loop1 _ _ _ _ h1 hn⟩
end
def PCn (P:Program) (H:FuncId→Hint) (T:Table):Nat→Panics
 | 0,_,_,_,_=>False
 | n+1,f,as,s,r=>T f=none∧f<900000∧∃fn c,P.funcs[AI.base f]? = some fn∧fn.body=some c∧(as.length≤fn.ntmps∧codeOk (H f) fn.ntmps c=true∧(fn.name== "runtime.NumGoroutine")=false) ∧
   PX P (H f) (EV P H T) (PCn P H T n) c ⟨params 0 as,[],s⟩ r
def PC (P:Program) (H:FuncId→Hint) (T:Table):Panics:=fun f as s r=>∃n,PCn P H T n f as s r
theorem qsd {P:Program} {B:Nat} {W0:World} (hm:P.follows .mixedOrders=true) {H:FuncId→Hint} {T:Table} (hT:TableOk P B W0 T):PanOk P B W0 (PC P H T):=by
 have hC:OracleOk P B W0 (EV P H T):=qhe hT (fun _ _=>qaj hm)
 have main:∀n,PanOk P B W0 (PCn P H T n):=by
  intro n
  induction n with
  | zero=>intro f as s r e;exact e.elim
  | succ n ih =>
   intro f as s r e
   obtain⟨_,_,fn,c,hf,hc,⟨h1,h2,h3⟩,hx⟩:=e
   refine⟨⟨fn,hf,by rw[hc];rfl,h3⟩,?_⟩
   intro T0 μ w vs hsz hW hs
   refine calls_of_wp hf hc ?_
   have hw:=hs.wide hsz (n:=fn.ntmps) (by omega)
   refine (qsc (T0:=T0) (μ0:=μ) (w0:=w) hm hW hC ih hx hw h2 ?_).1
   intro μ' lx' a' w' st' v h1 h2 h3
   exact⟨h1.defs.trans hs.mdf,v,μ',st'.s,rfl,h1.out h2 h3 hs.mdf⟩
 intro f as s r e
 obtain⟨n,e⟩:=e
 exact main n f as s r e
theorem PC_mk {P:Program} {H:FuncId→Hint} {T:Table} {f:FuncId} {fn:Func} {as:List AV} {s:List (List AV)} {r:AV} {c:Code} (hT:T f=none) (h9:f<900000) (hf:P.funcs[AI.base f]? = some fn) (hc:fn.body=some c)
  (h1:as.length≤fn.ntmps) (h2:codeOk (H f) fn.ntmps c=true) (h3:(fn.name== "runtime.NumGoroutine")=false) (h:PX P (H f) (EV P H T) (PC P H T) c ⟨params 0 as,[],s⟩ r):PC P H T f as s r:=by
 obtain⟨n,hn⟩:=qyf (CPn:=PCn P H T) 0 h
 exact⟨n+1,hT,h9,fn,c,hf,hc,⟨h1,h2,h3⟩,hn⟩
end Go.AI
end
section
namespace Go.AI
set_option linter.unusedVariables false
def hasR (id:Nat):Code→Bool
 | .region i _ _=>i==id
 | .seq a b=>hasR id a||hasR id b
 | .cond _ a b=>hasR id a||hasR id b
 | .block _ a=>hasR id a
 | .loop a=>hasR id a
 | _=>false
section
variable (P:Program) (hh:Hint) (C:Oracle) (CP:Panics)
def panR (k:Nat) (ops:List Oper) (st:St) (r:AV):Prop :=
 bndP ops[k]? fun o=>bndP (runOps P hh C ops (ops.take k) st) fun st1=>wantedA ops o.guard st1=some true∧panOp hh CP o st1 r
def panRD (ops:List Oper) (st:St) (r:AV):Prop :=
 (List.range (ops.length-1)).all (fun j=>befL ops j (ops.length-1))=true ∧
 bndP ops[ops.length-1]? fun o=>PostD (runD P hh C (allocDs ops) ops (ops.take (ops.length-1)) (startD (allocDs ops) st)) fun st1=>wantedA ops o.guard st1=some true∧okAll (allocDs ops) st1.t (wrT hh o)=true∧panOp hh CP o st1 r
def pan (id k:Nat):Code→St→AV→Prop
 | .region i ops false,st,r=>i=id∧panR P hh C CP k ops.toList (clean0 hh st) r
 | .region i ops true,st,r=>i=id∧panRD P hh C CP ops.toList (clean0 hh st) r
 | .seq a b,st,r=>if hasR id a then pan id k a st r else Post (EXEC P hh C a st) fun e st1=>(match e with|.normal=>True|_=>False)∧pan id k b st1 r
 | .cond c a b,st,r=>bndP (aeval st c) fun v=>match v with
  | .bool t=>if t then pan id k a st r else pan id k b st r
  | _=>False
 | .block _ a,st,r=>pan id k a st r
 | .loop a,st,r=>PX P hh C CP (.loop a) st r
 | _,_,_=>False
end
section
variable {P:Program} {hh:Hint} {C:Oracle} {CP:Panics}
theorem qt2 {id k:Nat}:∀{c:Code} {st:St} {r:AV},pan P hh C CP id k c st r→PX P hh C CP c st r:=by
 intro c
 induction c with
 | region i ops draw =>
  intro st r h
  cases draw with
  | false =>
   simp only[pan] at h
   obtain⟨_,h⟩:=h
   obtain⟨o,ho,h⟩:=qat h
   obtain⟨st1,e,hw,hp⟩:=qat h
   refine .reg i ops (ops.toList.take k) (ops.toList.drop (k+1)) o st st1 r ?_ e hw hp
   obtain⟨hk,ho2⟩:=List.getElem?_eq_some_iff.1 ho
   rw[← ho2,← List.drop_eq_getElem_cons hk,List.take_append_drop]
  | true =>
   simp only[pan] at h
   obtain⟨_,hb,h⟩:=h
   obtain⟨o,ho,st1,e,hw,hk,hp⟩:=qat h
   obtain⟨hl,ho2⟩:=List.getElem?_eq_some_iff.1 ho
   have hlen:(ops.toList.take (ops.toList.length-1)).length=ops.toList.length-1:=by simp
   refine .regD i ops (ops.toList.take (ops.toList.length-1)) o st st1 r ?_ (by rw[hlen];exact hb) e hw hk hp
   have h3:ops.toList.drop (ops.toList.length-1+1)=[]:=List.drop_eq_nil_of_le (by omega)
   have h2:ops.toList.drop (ops.toList.length-1)=[o]:=by
    rw[List.drop_eq_getElem_cons hl,ho2,h3]
   have h1:=List.take_append_drop (ops.toList.length-1) ops.toList
   rw[h2] at h1
   exact h1.symm
 | seq a b iha ihb =>
  intro st r h
  simp only[pan] at h
  split at h
  ·exact .seqL a b st r (iha h)
  ·obtain⟨e,st1,h1,h2,h3⟩:=h
   cases e with
   | normal=>exact .seqR a b st st1 r h1 (ihb h3)
   | _=>exact h2.elim
 | cond c a b iha ihb =>
  intro st r h
  simp only[pan] at h
  obtain⟨v,hv,h⟩:=qat h
  cases v with
  | bool t =>
   cases t with
   | true=>exact .condT c a b st r hv (iha h)
   | false=>exact .condF c a b st r hv (ihb h)
  | _=>exact h.elim
 | block i a ih=>intro st r h;exact .block i a st r (ih h)
 | loop a ih=>intro st r h;exact h
 | _=>intro st r h;exact h.elim
@[simp ↓] theorem qxb {id k i:Nat} {l:List Oper} {st:St} {r:AV}:pan P hh C CP id k (.region i (List.toArray l) false) st r=(i=id∧strict (clean0 hh st) fun st=>panR P hh C CP k l st r):=nrfl rfl
@[simp ↓] theorem qvi {id k i:Nat} {l:List Oper} {st:St} {r:AV}:pan P hh C CP id k (.region i (List.toArray l) true) st r=(i=id∧strict (clean0 hh st) fun st=>panRD P hh C CP l st r):=nrfl rfl
@[simp ↓] theorem pan_seq {id k:Nat} {a b:Code} {st:St} {r:AV}:pan P hh C CP id k (.seq a b) st r=(if hasR id a=true then pan P hh C CP id k a st r else Post (EXEC P hh C a st) fun e st1=>(match e with|.normal=>True|_=>False)∧pan P hh C CP id k b st1 r):=nrfl rfl
@[simp ↓] theorem pan_cond {id k:Nat} {c:Operand} {a b:Code} {st:St} {r:AV}:pan P hh C CP id k (.cond c a b) st r=(bndP (aeval st c) fun v=>match v with
  | .bool t=>if t=true then pan P hh C CP id k a st r else pan P hh C CP id k b st r
  | _=>False):=nrfl rfl
@[simp ↓] theorem qyg {id k i:Nat} {a:Code} {st:St} {r:AV}:pan P hh C CP id k (.block i a) st r=pan P hh C CP id k a st r:=nrfl rfl
@[simp ↓] theorem pan_loop {id k:Nat} {a:Code} {st:St} {r:AV}:pan P hh C CP id k (.loop a) st r=PX P hh C CP (.loop a) st r:=nrfl rfl
@[congr] theorem qyh {id k:Nat} {c:Code} {s t:St} {r:AV} (e:s=t):pan P hh C CP id k c s r=pan P hh C CP id k c t r:=by rw[e]
@[simp ↓] theorem hasR_region {id i:Nat} {ops d}:hasR id (.region i ops d)=(i==id):=nrfl rfl
@[simp ↓] theorem hasR_seq {id:Nat} {a b:Code}:hasR id (.seq a b)=(hasR id a||hasR id b):=nrfl rfl
@[simp ↓] theorem hasR_cond {id:Nat} {c a b}:hasR id (.cond c a b)=(hasR id a||hasR id b):=nrfl rfl
@[simp ↓] theorem hasR_block {id i:Nat} {a}:hasR id (.block i a)=hasR id a:=nrfl rfl
@[simp ↓] theorem hasR_loop {id:Nat} {a}:hasR id (.loop a)=hasR id a:=nrfl rfl
@[simp ↓] theorem hasR_skip {id:Nat}:hasR id .skip=false:=nrfl rfl
@[simp ↓] theorem hasR_ret {id:Nat}:hasR id .ret=false:=nrfl rfl
@[simp ↓] theorem hasR_exit {id i:Nat}:hasR id (.exit i)=false:=nrfl rfl
@[simp ↓] theorem panR_unf {k:Nat} {l:List Oper} {st:St} {r:AV}:panR P hh C CP k l st r=bndP l[k]? fun o=>bndP (runOps P hh C l (l.take k) st) fun st1=>wantedA l o.guard st1=some true∧panOp hh CP o st1 r:=nrfl rfl
section
variable {d:Option Tmp} {T:TypeId} {pos:String} {af:Array Edge} {g:Option (Nat×Bool)} {st:St} {r:AV}
@[simp ↓] theorem qvj {x}:panOp hh CP ⟨d,.panic x,T,pos,af,g⟩ st r=bndP (aeval st x) fun v=>isIfc v=true∧v=r:=nrfl rfl
@[simp ↓] theorem qxc {f xs ts} : panOp hh CP ⟨d, .call ⟨.value f, xs, ts⟩, T, pos, af, g⟩ st r = bndP (aeval st f) fun g => match g with
      | .fn g cap => g < 100000 ∧ bndP (aevals st xs.toList) fun as => bndP (args as) fun as => CP (vary hh d g) (as ++ cap) st.s r
      | .fb g fs => g < 100000 ∧ bndP (aevals st xs.toList) fun as => bndP (args as) fun as => CP (vary hh d g) (fs ++ as) st.s r
      | _ => False := nrfl rfl
end
attribute [simp] isIfc
theorem q8 {H:FuncId→Hint} {T:Table} {f:FuncId} {fn:Func} {c:Code} {as:List AV} {s:List (List AV)} {r:AV} (id k:Nat) (hT:T f=none) (hf:P.funcs[AI.base f]? = some fn) (hb:fn.body=some c)
  (hn:as.length≤fn.ntmps) (hc:codeOk (H f) fn.ntmps c=true) (hg:(fn.name== "runtime.NumGoroutine")=false)
  (hp:pan P (H f) (EV P H T) (PC P H T) id k c ⟨params 0 as,[],s⟩ r) (h9:f<900000:=by decide):PC P H T f as s r :=
 PC_mk hT h9 hf hb hn hc hg (qt2 hp)
theorem qvk {α:Type} (I:α→St) (Pr:α→Prop) (μ:α→Nat) (a:α) {c:Code} {r:AV} {st:St} (h0:head hh (rid c) st=I a) (hP:Pr a)
  (h:∀a,Pr a→PX P hh C CP c (I a) r∨Post (EXEC P hh C c (I a)) (roundK hh (rid c) I Pr μ a fun _ _=>False)) :
  PX P hh C CP (.loop c) st r:=by
 generalize hn:μ a=n
 induction n using Nat.strongRecOn generalizing a st with
 | _ n ih =>
  rcases h a hP with h1|⟨e,st1,h1,h2⟩
  ·exact .loop0 c _ r (by rw[h0];exact h1)
  ·cases e with
   | normal =>
    obtain⟨b,hb,hlt,hd⟩:=h2
    exact .loop1 c _ st1 r (by rw[h0];exact h1) (ih (μ b) (hn▸hlt) b hd hb rfl)
   | _=>exact h2.elim
end
theorem qse {P:Program} {H:FuncId→Hint} {T T':Table} (h0:∀f,T f=none→T' f=none) (h1:∀f p,T f=some p→∃p',T' f=some p'∧∀as s r,p as s=some r→p' as s=some r):∀n,Cle (ev P H T n) (ev P H T' n):=by
 intro n
 induction n with
 | zero=>intro f as s r e;cases e
 | succ n ih =>
  intro f as s r e
  simp only[ev] at e ⊢
  cases hT:T f with
  | some p =>
   rw[hT] at e
   obtain⟨p',hp',hle⟩:=h1 f p hT
   rw[hp']
   exact hle _ _ _ e
  | none =>
   rw[hT] at e
   rw[h0 f hT]
   simp only at e ⊢
   split at e
   ·rename_i h9
    cases e
   ·rename_i h9
    rw[if_neg h9]
    obtain⟨fn,hf,e⟩:=qa e
    obtain⟨c,hc,e⟩:=qa e
    rw[hf];simp only[bnd];rw[hc];simp only
    split at e
    ·rename_i hok
     rw[if_pos hok]
     obtain⟨x,st,hx,hxe,ho⟩:=finE_eq e
     rw[hx] at e
     rw[qal ih n c _ (Nat.le_refl _) hx];exact e
    ·cases e
theorem qvl {P:Program} {H:FuncId→Hint} {T T':Table} (h0:∀f,T f=none→T' f=none) (h1:∀f p,T f=some p→∃p',T' f=some p'∧∀as s r,p as s=some r→p' as s=some r)
  {f:FuncId} {as:List AV} {s:List (List AV)} {r:AV×List (List AV)} (e:EV P H T f as s=some r):EV P H T' f as s=some r:=by
 obtain⟨n,hn⟩:=(qdx r).1 e
 exact (qdx r).2 ⟨n,qse h0 h1 n f as s r hn⟩
end Go.AI
end
section
namespace Go.AI
open Go.RowKit
set_option linter.unusedVariables false
section
variable {P:Program} {B:Nat} {T0:Nat→Prop} {μ0:Gh} {w0:World} {N:Nat} {μ:Gh} {lx:Nat→Option Nat} {a:Act} {w:World} {st:St} {hh:Hint} {C:Oracle} {CP:Panics} {W0:World}
theorem Sim.rebase (h:Sim B T0 μ0 w0 N μ lx a w st) (d:Deferred):Sim B T0 {μ0 with df:=[d]} w0 N μ lx ⟨a.tmps,[d]⟩ w st where
 defs:=rfl
 size:=h.size
 ext:=⟨h.ext.below,h.ext.same,h.ext.kept,h.ext.fr,h.ext.bx,h.ext.sh,h.ext.mp,fun e=>by cases e⟩
 tmp:=h.tmp
 loc:=h.loc
 glb:=h.glb
 gdom:=h.gdom
 inj:=h.inj
 rng:=h.rng
 fr0:=h.fr0
 hB:=h.hB
 nd:=h.nd
 gbx:=h.gbx
 mdf:=h.mdf
theorem Sim.unbase {ds:List Deferred} (h:Sim B T0 {μ0 with df:=ds} w0 N μ lx a w st) (h0:μ0.df=[]):Sim B T0 μ0 w0 N μ lx ⟨a.tmps,[]⟩ w st where
 defs:=h0.symm
 size:=h.size
 ext:=⟨h.ext.below,h.ext.same,h.ext.kept,h.ext.fr,h.ext.bx,h.ext.sh,h.ext.mp,fun _=>h.mdf⟩
 tmp:=h.tmp
 loc:=h.loc
 glb:=h.glb
 gdom:=h.gdom
 inj:=h.inj
 rng:=h.rng
 fr0:=h.fr0
 hB:=h.hB
 nd:=h.nd
 gbx:=h.gbx
 mdf:=h.mdf
theorem Sim.retmps {a':Act} (h:Sim B T0 μ0 w0 N μ lx a w st) (hs:a'.tmps.size=N) (hd:a'.defers=a.defers) (ht:∀i v,look st.t i=some v→a'.tmps.getD i undef=a.tmps.getD i undef):Sim B T0 μ0 w0 N μ lx a' w st:=by
 have hown:∀l,own a' lx μ w st l=own a lx μ w st l:=by
  intro l
  cases l with
  | t i j =>
   simp only[own]
   cases hq:look st.t i with
   | none=>rfl
   | some u=>simp only[Option.bind_some,ht i u hq]
  | _=>rfl
 constructor
 ·rw[hd];exact h.defs
 ·exact hs
 ·exact h.ext
 ·intro i u hu;rw[ht i u hu];exact h.tmp i u hu
 ·exact h.loc
 ·exact h.glb
 ·exact h.gdom
 ·intro l l' k e e';rw[hown] at e e';exact h.inj l l' k e e'
 ·intro l k e;rw[hown] at e;exact h.rng l k e
 ·exact h.fr0
 ·exact h.hB
 ·exact h.nd
 ·exact h.gbx
 ·exact h.mdf
theorem qsf {o:Oper} {f:Operand} {ts:Array TypeId} {g:FuncId} {us:List AV} {K:Act→World→Prop} {Q:Exit→Act→World→Prop} (ho:o.op=.defer ⟨.value f,#[],ts⟩) (hd:o.dst=none) (h:Sim B T0 μ0 w0 N μ lx a w st) (h0:a.defers=[]) (hu:aeval st f=some (.fn g us))
  (k:∀vs:Array Value,vs.size=us.length→(∀j c,us[j]? = some c→Rep B μ w (vs.getD j undef) c∧pers c=true∧quiet c=true)→Sim B T0 {μ0 with df:=[⟨.fn (.func g) vs,#[]⟩]} w0 N μ lx ⟨a.tmps,[⟨.fn (.func g) vs,#[]⟩]⟩ w st→K ⟨a.tmps,[⟨.fn (.func g) vs,#[]⟩]⟩ w):o.wp P a w K Q:=by
 have hr:=(qj h hu).1
 generalize hv:a.eval f=v at hr
 cases hr with
 | fn _ vs _ hl hp hc =>
  have hex:(execOp a.eval o).run P w=.ok (.defer ⟨.fn (.func g) vs,#[]⟩) w:=by
   unfold execOp
   rw[ho]
   simp[resolve,hv,Deferred.ofValue]
  unfold Oper.wp
  rw[hex,Oper.upon_defer,hd,h0]
  have:=k vs hl (fun j c hj=>⟨hc j c hj,hp c (List.mem_of_getElem? hj)⟩) (h.rebase _)
  exact this
end
end Go.AI
end
section
namespace Go.AI
open Go.RowKit
set_option linter.unusedVariables false
inductive PY (P:Program) (hh:Hint) (C:Oracle) (CP:Panics) (Φ:List (Nat×AV)→Prop):Code→St→AV→Prop
 | reg (i:Nat) (ops:Array Oper) (l l':List Oper) (o:Oper) (st st1:St) (r:AV) (hl:ops.toList=l++o::l') (e:runOps P hh C ops.toList l (clean0 hh st)=some st1) (hw:wantedA ops.toList o.guard st1=some true)
   (hp:panOp hh CP o st1 r) (hΦ:Φ st1.t):PY P hh C CP Φ (.region i ops false) st r
 | seqL (x y:Code) (st:St) (r:AV) (h:PY P hh C CP Φ x st r):PY P hh C CP Φ (.seq x y) st r
 | seqR (x y:Code) (st st1:St) (r:AV) (h1:EXEC P hh C x st=some (.normal,st1)) (h:PY P hh C CP Φ y st1 r):PY P hh C CP Φ (.seq x y) st r
 | condT (c:Operand) (x y:Code) (st:St) (r:AV) (hc:aeval st c=some (.bool true)) (h:PY P hh C CP Φ x st r):PY P hh C CP Φ (.cond c x y) st r
 | condF (c:Operand) (x y:Code) (st:St) (r:AV) (hc:aeval st c=some (.bool false)) (h:PY P hh C CP Φ y st r):PY P hh C CP Φ (.cond c x y) st r
 | block (i:Nat) (c:Code) (st:St) (r:AV) (h:PY P hh C CP Φ c st r):PY P hh C CP Φ (.block i c) st r
 | loop0 (c:Code) (st:St) (r:AV) (h:PY P hh C CP Φ c (head hh (rid c) st) r):PY P hh C CP Φ (.loop c) st r
 | loop1 (c:Code) (st st1:St) (r:AV) (h1:EXEC P hh C c (head hh (rid c) st)=some (.normal,st1)) (h:PY P hh C CP Φ (.loop c) st1 r):PY P hh C CP Φ (.loop c) st r
section
variable {P:Program} {B:Nat} {T0:Nat→Prop} {μ0:Gh} {w0:World} {N:Nat} {μ:Gh} {lx:Nat→Option Nat} {a:Act} {w:World} {st:St} {hh:Hint} {C:Oracle} {CP:Panics} {W0:World} {Φ:List (Nat×AV)→Prop}
def PQy (B:Nat) (T0:Nat→Prop) (μ0:Gh) (w0:World) (N:Nat) (r:AV) (Φ:List (Nat×AV)→Prop) (Q:Exit→Act→World→Prop):Prop:=∀t,Φ t→PQt B T0 μ0 w0 N r t Q
theorem qi8 {ops:Array Oper} {Q:Exit→Act→World→Prop} {r:AV} (hW:Below B W0 w0) (hC:OracleOk P B W0 C) (hP:PanOk P B W0 CP) (k:PQy B T0 μ0 w0 N r Φ Q):∀(l l':List Oper) (o:Oper) {st st':St} {μ:Gh} {lx:Nat→Option Nat} {a:Act} {w:World},
  Sim B T0 μ0 w0 N μ lx a w st→opsOk N l=true→runOps P hh C ops.toList l st=some st'→wantedA ops.toList o.guard st'=some true→panOp hh CP o st' r→Φ st'.t→wpList P ops Q (l++o::l') a w:=by
 intro l l' o
 induction l with
 | nil =>
  intro st st' μ lx a w h _ e hw hp hΦ
  injection e with e;subst e
  simp only[List.nil_append,wpList]
  rw[qaf h hw]
  exact .inl (qds h hW hP hp (k _ hΦ))
 | cons p r ih =>
  intro st st' μ lx a w h hok e hwo hp hΦ
  simp only[opsOk,Bool.and_eq_true] at hok
  have hd:∀n,p.dst=some n→n<N:=fun n hn=>by have:=hok.1;rw[hn] at this;simpa using this
  simp only[runOps] at e
  simp only[List.cons_append,wpList]
  cases hw:wantedA ops.toList p.guard st with
  | none=>rw[hw] at e;cases e
  | some b =>
   rw[hw] at e
   rw[qaf h hw]
   cases b with
   | true =>
    simp only[sel] at e
    obtain⟨st1,h1,e⟩:=qa e
    refine .inl (qbn h hW hC hd h1 _ _ fun μ' lx' a' w' hs=>ih hs hok.2 e hwo hp hΦ)
   | false =>
    simp only[sel] at e
    simp only[Bool.false_eq_true,if_false]
    exact ih (qb7 h hd) hok.2 e hwo hp hΦ
theorem qsg (hm:P.follows .mixedOrders=true) (hW:Below B W0 w0) (hC:OracleOk P B W0 C) (hP:PanOk P B W0 CP) {c:Code} {st:St} {r:AV} (h:PY P hh C CP Φ c st r):∀{μ:Gh} {lx:Nat→Option Nat} {a:Act} {w:World} {Q:Exit→Act→World→Prop},
  Sim B T0 μ0 w0 N μ lx a w st→codeOk hh N c=true→PQy B T0 μ0 w0 N r Φ Q→c.wp P Q a w∧(∀c',c=.loop c'→LW P c' Q a w):=by
 induction h with
 | reg i ops l l' o st st1 r hl e hw hp hΦ =>
  intro μ lx a w Q hs hok k
  simp only[codeOk,Bool.and_eq_true,Bool.or_eq_true,Bool.not_eq_true'] at hok
  refine⟨wp_region_list ?_,fun c' e=>by cases e⟩
  have hokl:opsOk N l=true:=by
   have:=hok.1
   rw[hl] at this
   have go:∀l:List Oper,opsOk N (l++o::l')=true→opsOk N l=true:=by
    intro l
    induction l with
    | nil=>intro _;rfl
    | cons p q ih=>intro h;simp only[List.cons_append,opsOk,Bool.and_eq_true] at h ⊢;exact⟨h.1,ih h.2⟩
   exact go l this
  rw[hl]
  exact qi8 hW hC hP k l l' o hs.clean0 hokl e hw hp hΦ
 | seqL x y st r h ih =>
  intro μ lx a w Q hs hok k
  simp only[codeOk,Bool.and_eq_true] at hok
  exact⟨wp_seq (ih (Q:=Exit.then (y.wp P Q) Q) hs hok.1 fun t ht μ' lx' a' w' st' v h1 h2 h3 h4=>k t ht μ' lx' a' w' st' v h1 h2 h3 h4).1,fun c' e=>by cases e⟩
 | seqR x y st st1 r h1 h ih =>
  intro μ lx a w Q hs hok k
  simp only[codeOk,Bool.and_eq_true] at hok
  refine⟨wp_seq ?_,fun c' e=>by cases e⟩
  obtain⟨m,hm1⟩:=(qq _).1 h1
  exact (qar hW hC (qaj hm) m x st hs hok.1 hm1 fun μ' lx' a' w' hs'=>(ih hs' hok.2 k).1).1
 | condT c x y st r hc h ih =>
  intro μ lx a w Q hs hok k
  simp only[codeOk,Bool.and_eq_true] at hok
  have hb:a.eval c=.bool true:=by
   have:=(qj hs hc).1
   generalize a.eval c=u at this
   cases this;rfl
  exact⟨wp_cond_true hb (ih hs hok.1 k).1,fun c' e=>by cases e⟩
 | condF c x y st r hc h ih =>
  intro μ lx a w Q hs hok k
  simp only[codeOk,Bool.and_eq_true] at hok
  have hb:a.eval c=.bool false:=by
   have:=(qj hs hc).1
   generalize a.eval c=u at this
   cases this;rfl
  exact⟨wp_cond_false hb (ih hs hok.2 k).1,fun c' e=>by cases e⟩
 | block i c st r h ih =>
  intro μ lx a w Q hs hok k
  simp only[codeOk] at hok
  exact⟨wp_block (ih (Q:=Exit.inBlock i Q) hs hok fun t ht μ' lx' a' w' st' v h1 h2 h3 h4=>k t ht μ' lx' a' w' st' v h1 h2 h3 h4).1,fun c' e=>by cases e⟩
 | loop0 c st r h ih =>
  intro μ lx a w Q hs hok k
  have hok':codeOk hh N c=true:=hok
  have hl:LW P c Q a w:=LW.round (ih (Q:=Exit.then (LW P c Q) Q) hs.head hok' fun t ht μ' lx' a' w' st' v h1 h2 h3 h4=>k t ht μ' lx' a' w' st' v h1 h2 h3 h4).1
  exact⟨hl.wp,fun c' e=>by injection e with e;subst e;exact hl⟩
 | loop1 c st st1 r h1 h ih =>
  intro μ lx a w Q hs hok k
  have hok':codeOk hh N c=true:=hok
  obtain⟨m,hm1⟩:=(qq _).1 h1
  have hl:LW P c Q a w:=LW.round (qar hW hC (qaj hm) m c _ hs.head hok' hm1 fun μ' lx' a' w' hs'=>(ih hs' hok k).2 c rfl).1
  exact⟨hl.wp,fun c' e=>by injection e with e;subst e;exact hl⟩
end
section
variable (P:Program) (hh:Hint) (C:Oracle) (CP:Panics) (Φ:List (Nat×AV)→Prop)
def pay (id k:Nat):Code→St→AV→Prop
 | .region i ops false,st,r=>i=id∧bndP ops.toList[k]? fun o=>bndP (runOps P hh C ops.toList (ops.toList.take k) (clean0 hh st)) fun st1=>wantedA ops.toList o.guard st1=some true∧panOp hh CP o st1 r∧Φ st1.t
 | .seq a b,st,r=>if hasR id a then pay id k a st r else Post (EXEC P hh C a st) fun e st1=>(match e with|.normal=>True|_=>False)∧pay id k b st1 r
 | .cond c a b,st,r=>bndP (aeval st c) fun v=>match v with
  | .bool t=>if t then pay id k a st r else pay id k b st r
  | _=>False
 | .block _ a,st,r=>pay id k a st r
 | .loop a,st,r=>PY P hh C CP Φ (.loop a) st r
 | _,_,_=>False
end
section
variable {P:Program} {hh:Hint} {C:Oracle} {CP:Panics} {Φ:List (Nat×AV)→Prop}
theorem qoz {id k:Nat}:∀{c:Code} {st:St} {r:AV},pay P hh C CP Φ id k c st r→PY P hh C CP Φ c st r:=by
 intro c
 induction c with
 | region i ops draw =>
  intro st r h
  cases draw with
  | false =>
   simp only[pay] at h
   obtain⟨_,h⟩:=h
   obtain⟨o,ho,h⟩:=qat h
   obtain⟨st1,e,hw,hp,hΦ⟩:=qat h
   refine .reg i ops (ops.toList.take k) (ops.toList.drop (k+1)) o st st1 r ?_ e hw hp hΦ
   obtain⟨hk,ho2⟩:=List.getElem?_eq_some_iff.1 ho
   rw[← ho2,← List.drop_eq_getElem_cons hk,List.take_append_drop]
  | true=>simp only[pay] at h
 | seq a b iha ihb =>
  intro st r h
  simp only[pay] at h
  split at h
  ·exact .seqL a b st r (iha h)
  ·obtain⟨e,st1,h1,h2,h3⟩:=h
   cases e with
   | normal=>exact .seqR a b st st1 r h1 (ihb h3)
   | _=>exact h2.elim
 | cond c a b iha ihb =>
  intro st r h
  simp only[pay] at h
  obtain⟨v,hv,h⟩:=qat h
  cases v with
  | bool t =>
   cases t with
   | true=>exact .condT c a b st r hv (iha h)
   | false=>exact .condF c a b st r hv (ihb h)
  | _=>exact h.elim
 | block i a ih=>intro st r h;exact .block i a st r (ih h)
 | loop a ih=>intro st r h;exact h
 | _=>intro st r h;exact h.elim
@[simp ↓] theorem qxd {id k i:Nat} {l:List Oper} {st:St} {r:AV}:pay P hh C CP Φ id k (.region i (List.toArray l) false) st r=(i=id∧strict (clean0 hh st) fun st=>bndP l[k]? fun o=>bndP (runOps P hh C l (l.take k) st) fun st1=>wantedA l o.guard st1=some true∧panOp hh CP o st1 r∧Φ st1.t):=nrfl rfl
@[simp ↓] theorem pay_seq {id k:Nat} {a b:Code} {st:St} {r:AV}:pay P hh C CP Φ id k (.seq a b) st r=(if hasR id a=true then pay P hh C CP Φ id k a st r else Post (EXEC P hh C a st) fun e st1=>(match e with|.normal=>True|_=>False)∧pay P hh C CP Φ id k b st1 r):=nrfl rfl
@[simp ↓] theorem pay_cond {id k:Nat} {c:Operand} {a b:Code} {st:St} {r:AV}:pay P hh C CP Φ id k (.cond c a b) st r=(bndP (aeval st c) fun v=>match v with
  | .bool t=>if t=true then pay P hh C CP Φ id k a st r else pay P hh C CP Φ id k b st r
  | _=>False):=nrfl rfl
@[simp ↓] theorem qyi {id k i:Nat} {a:Code} {st:St} {r:AV}:pay P hh C CP Φ id k (.block i a) st r=pay P hh C CP Φ id k a st r:=nrfl rfl
@[simp ↓] theorem pay_loop {id k:Nat} {a:Code} {st:St} {r:AV}:pay P hh C CP Φ id k (.loop a) st r=PY P hh C CP Φ (.loop a) st r:=nrfl rfl
@[congr] theorem qyj {id k:Nat} {c:Code} {s t:St} {r:AV} (e:s=t):pay P hh C CP Φ id k c s r=pay P hh C CP Φ id k c t r:=by rw[e]
theorem qvm {α:Type} (I:α→St) (Pr:α→Prop) (μ:α→Nat) (a:α) {c:Code} {r:AV} {st:St} (h0:head hh (rid c) st=I a) (hP:Pr a)
  (h:∀a,Pr a→PY P hh C CP Φ c (I a) r∨Post (EXEC P hh C c (I a)) (roundK hh (rid c) I Pr μ a fun _ _=>False)) :
  PY P hh C CP Φ (.loop c) st r:=by
 generalize hn:μ a=n
 induction n using Nat.strongRecOn generalizing a st with
 | _ n ih =>
  rcases h a hP with h1|⟨e,st1,h1,h2⟩
  ·exact .loop0 c _ r (by rw[h0];exact h1)
  ·cases e with
   | normal =>
    obtain⟨b,hb,hlt,hd⟩:=h2
    exact .loop1 c _ st1 r (by rw[h0];exact h1) (ih (μ b) (hn▸hlt) b hd hb rfl)
   | _=>exact h2.elim
end
section
variable {P:Program} {B:Nat} {T0:Nat→Prop} {μ0:Gh} {w0:World} {N:Nat} {μ:Gh} {lx:Nat→Option Nat} {a:Act} {w:World} {st:St}
theorem Sim.wipe (h:Sim B T0 μ0 w0 N μ lx a w st) (t':List (Nat×AV)) (hsub:∀i v,look t' i=some v→look st.t i=some v) (hq:∀i v,look t' i=some v→quiet v=true∧pers v=true) (hnd:(t'.map (·.1)).Nodup) :
  Sim B (fun _=>False) {μ with df:=a.defers} w N μ (fun _=>none) a w ⟨t',[],st.s.map fun _=>[]⟩:=by
 have hno:∀l k,own a (fun _=>none) μ w ⟨t',[],st.s.map fun _=>[]⟩ l≠some k:=by
  intro l k e
  cases l with
  | t i j =>
   simp only[own] at e
   cases hl:look t' i with
   | none=>rw[hl] at e;cases e
   | some v =>
    rw[hl] at e
    obtain⟨q1,q2⟩:=hq i v hl
    cases j with
    | none=>simp only[Option.bind_some,ownV] at e;rw[qt q1] at e;cases e
    | some j=>cases v<;>first|(simp[ownV] at e;done)|simp[pers] at q2
  | l d=>simp[own,look] at e
  | lc d j=>simp[own,look,ownB] at e
  | g b =>
   simp only[own,List.getElem?_map] at e
   cases hb:st.s[b]? with
   | none=>rw[hb] at e;cases e
   | some cs=>rw[hb] at e;cases e
  | gc b j =>
   simp only[own,ownB,List.getElem?_map] at e
   cases hb:st.s[b]? with
   | none=>rw[hb] at e;cases e
   | some cs=>rw[hb] at e;cases hx:μ.bx b<;>(rw[hx] at e;cases e)
 constructor
 ·rfl
 ·exact h.size
 ·exact⟨Below.refl _ _,fun _ _ _=>⟨rfl,rfl⟩,fun _ _ _ _=>rfl,fun _ _=>Nat.le_refl _,fun _ _ e=>e,fun _ _ e=>e,fun _ _ _ e=>e,fun _=>h.mdf⟩
 ·intro i v e
  have:=h.tmp i v (hsub i v e)
  have hp:=(hq i v e).2
  cases v with
  | lp d i=>simp[pers] at hp
  | _=>exact this
 ·intro d cs e;simp[look] at e
 ·intro b cs blk e _ hne
  simp only[List.getElem?_map] at e
  cases hb:st.s[b]? with
  | none=>rw[hb] at e;cases e
  | some c=>rw[hb] at e;injection e with e;exact absurd e.symm hne
 ·intro b hb;exact h.gdom b (by simpa using hb)
 ·intro l l' k e;exact absurd e (hno l k)
 ·intro l k e;exact absurd e (hno l k)
 ·exact h.fr0
 ·exact h.hB
 ·exact hnd
 ·intro b hb;exact h.gbx b (by simpa using hb)
 ·exact h.mdf
theorem Sim.unwipe {N':Nat} {μ':Gh} {lx':Nat→Option Nat} {a':Act} {w':World} {st':St} {ds:List Deferred} (h:Sim B T0 μ0 w0 N μ lx a w st) (k:Sim B (fun _=>False) {μ with df:=ds} w N' μ' lx' a' w' st') :
  Sim B T0 μ0 w0 N ⟨μ'.fr,μ.bx,[]⟩ lx a w' st∧Ext B (fun _=>False) μ w ⟨μ'.fr,μ.bx,[]⟩ w':=by
 have x:=k.ext
 have x2:Ext B (fun _=>False) μ w ⟨μ'.fr,μ.bx,[]⟩ w':=⟨x.below,x.same,x.kept,x.fr,fun _ _ e=>e,x.sh,x.mp,fun _=>rfl⟩
 exact⟨(h.grow x2 (fun _ _ _ t=>t.elim) (fun _ _ t=>t.elim) h.gdom k.fr0 (fun _ _=>rfl)).1,x2⟩
theorem qkc {N':Nat} {μ':Gh} {lx':Nat→Option Nat} {a':Act} {w':World} {st':St} {ds:List Deferred} (h:Sim B T0 μ0 w0 N μ lx a w st) (k:Sim B (fun _=>False) {μ with df:=ds} w N' μ' lx' a' w' st') {i b o:Nat} {s s':Option (TypeId×Nat)}
  (h1:look st.t i=some (.gp b o s)) (h2:look st'.t i=some (.gp b o s')):a'.tmps.getD i undef=a.tmps.getD i undef:=by
 have r1:=(h.tmp i _ h1).1
 have r2:=(k.tmp i _ h2).1
 generalize a.tmps.getD i undef=v at r1
 generalize a'.tmps.getD i undef=v' at r2
 cases r1 with
 | gp _ _ blk _ e1 _ =>
  cases r2 with
  | gp _ _ blk' _ e2 _ =>
   have:=k.ext.bx b blk e1
   rw[e2] at this
   injection this with this
   rw[this]
end
end Go.AI
end
section
namespace Go.AI
open Go.RowKit Go.ChangeShapes
set_option linter.unusedVariables false
theorem plain_addr {w:World} {a:Addr} {v:Value} (h:w.cell? a=some v):∃b off,a=⟨b,off,none⟩:=by
 obtain⟨b,off,s⟩:=a
 cases s with
 | none=>exact⟨b,off,rfl⟩
 | some s =>
  simp only[World.cell?] at h
  split at h<;>simp at h
section
variable {H:Type} {enc:TypeId×Value→H} {P:Program} {W:World} {t e:TypeId} {α:Type}
structure Reads (enc:TypeId×Value→H) (P:Program) (W:World) (t:TypeId) {α:Type} (R:α→AV) (Q:α→DataW H→Prop):Prop where
 cells:∀a,(R a).cells.length=P.cellsOf t∧(∀c∈(R a).cells,plain c=true)
 pos:0<P.cellsOf t
 rd:∀fuel cs x,DataW.trod enc P W 0 (fun _=>true) true fuel t cs=some x→∃a,Q a x.1∧cs.length=P.cellsOf t∧∀j c,(R a).cells[j]? = some c→Rep W.heap.size gh0 W (cs.getD j undef) c
theorem qc9 {v:Value} {c:AV} (h:Rep W.heap.size gh0 W v c):∀j c',[c][j]? = some c'→Rep W.heap.size gh0 W ([v].getD j undef) c':=by
 intro j c' e
 cases j with
 | zero=>simp at e;subst e;exact h
 | succ j=>simp at e
theorem Reads.int {k:IntKind} (ht:P.underlying t=some (.int k)) (hc:P.cellsOf t=1):Reads enc P W t (fun n:Int=>AV.int k n) (fun n d=>d=.lit (.int k n)∧(Lit.int k n).wf=true):=by
 refine⟨fun a=>⟨by rw[hc];rfl,fun c h=>by simp[AV.cells] at h;subst h;rfl⟩,by omega,fun fuel cs x h=>?_⟩
 obtain⟨n,rfl,rfl,hw⟩:=DataW.trod_int ht h
 exact⟨n,⟨rfl,hw⟩,by simp[hc],qc9 (.int k n)⟩
theorem Reads.u8 (ht:P.underlying t=some (.int .u8)) (hc:P.cellsOf t=1):Reads enc P W t AV.u8 (fun n d=>d=.lit (.int .u8 n.toNat)):=by
 refine⟨fun a=>⟨by rw[hc];rfl,fun c h=>by simp[AV.cells,AV.u8] at h;subst h;rfl⟩,by omega,fun fuel cs x h=>?_⟩
 obtain⟨n,rfl,rfl,hw⟩:=DataW.trod_int ht h
 have hb:=bounds_u8 hw
 obtain⟨m,rfl⟩:=Int.eq_ofNat_of_zero_le hb.1
 have hm:(UInt8.ofNat m).toNat=m:=by simp only[UInt8.toNat_ofNat'];omega
 exact⟨UInt8.ofNat m,by rw[hm],by simp[hc],qc9 (by rw[AV.u8,hm];exact .int _ _)⟩
theorem Reads.bool (ht:P.underlying t=some .bool) (hc:P.cellsOf t=1):Reads enc P W t AV.bool (fun b d=>d=.lit (.bool b)):=by
 refine⟨fun a=>⟨by rw[hc];rfl,fun c h=>by simp[AV.cells] at h;subst h;rfl⟩,by omega,fun fuel cs x h=>?_⟩
 cases fuel with
 | zero=>simp[DataW.trod] at h
 | succ n =>
  unfold DataW.trod at h
  rw[ht] at h
  split at h
  all_goals first
   | (rename_i b _;injection h with h;subst h;exact⟨b,rfl,by simp[hc],qc9 (.bool _)⟩)
   | (simp at *;done)
theorem Reads.str (ht:P.underlying t=some .string) (hc:P.cellsOf t=1):Reads enc P W t AV.str (fun s d=>d=.lit (.string s)∧s.length≤maxLen):=by
 refine⟨fun a=>⟨by rw[hc];rfl,fun c h=>by simp[AV.cells] at h;subst h;rfl⟩,by omega,fun fuel cs x h=>?_⟩
 obtain⟨s,rfl,rfl,hw⟩:=DataW.trod_string ht h
 exact⟨s.data.toList,⟨rfl,by simpa using hw⟩,by simp[hc],qc9 (.str s)⟩
theorem qo0 {w:World} {a:Addr} {n:Nat} {cs:List Value} (h:w.cells? 0 a n=some cs):cs.length=n∧∀j,j<n→w.cell? (a.add j)=some (cs.getD j undef):=by
 unfold World.cells? at h
 rw[if_pos (Nat.zero_le _)] at h
 have hl:=mapM_some_length h
 refine⟨by simpa using hl,fun j hj=>?_⟩
 have h1:=mapM_some_get h j j (by simp[hj])
 have hlt:j<cs.length:=by rw[hl];simpa using hj
 rw[h1,List.getElem?_eq_getElem hlt]
 simp[List.getD,List.getElem?_eq_getElem hlt]
theorem flat_at {α:Type} {R:α→AV} (l:List α) (i j:Nat) (c:AV) (h:((l.map R)[i]?.bind fun e=>e.cells[j]?)=some c):∃a,l[i]? = some a∧(R a).cells[j]? = some c:=by
 rw[List.getElem?_map] at h
 cases hx:l[i]? with
 | none=>rw[hx] at h;cases h
 | some a=>rw[hx] at h;exact⟨a,rfl,h⟩
theorem qkd {α:Type} {Q:Nat→α→Prop} (n:Nat) (h:∀i,i<n→∃z,Q i z):∃l:List α,l.length=n∧∀(i:Nat) (z:α),l[i]? = some z→Q i z:=by
 induction n with
 | zero=>exact⟨[],rfl,fun i z e=>by simp at e⟩
 | succ n ih =>
  obtain⟨l,hl,hq⟩:=ih fun i hi=>h i (by omega)
  obtain⟨z,hz⟩:=h n (by omega)
  refine⟨l++[z],by simp[hl],fun i y e=>?_⟩
  rw[List.getElem?_append] at e
  split at e
  ·exact hq i y e
  ·rename_i hi
   have:i=n:=by
    rcases Nat.lt_or_ge (i-l.length) 1 with q|q
    ·omega
    ·rw[List.getElem?_eq_none (by simpa using q)] at e;cases e
   subst this
   simp[hl] at e;subst e;exact hz
def slQ {α:Type} (Q:α→DataW H→Prop) (l:List α) (d:DataW H):Prop :=
 (l=[]∧d=.nil)∨∃ds rest,d=.slice ds rest∧l.length=ds.length∧l.length≤maxLen∧∀(i:Nat) (a:α) (x:DataW H),l[i]? = some a→ds[i]? = some x→Q a x
theorem Reads.slice {R:α→AV} {Q:α→DataW H→Prop} (h:Reads enc P W e R Q) (ht:P.underlying t=some (.slice e)) (hc:P.cellsOf t=1):Reads enc P W t (fun l:List α=>AV.sl .sh (l.map R)) (slQ Q):=by
 refine⟨fun a=>⟨by rw[hc];rfl,fun c q=>by simp[AV.cells] at q;subst q;rfl⟩,by omega,fun fuel cs x hx=>?_⟩
 rcases Go.Deep.open_slice ht hx with ⟨rfl,rfl⟩|⟨a,len,cap,m,n,D,Pl,rfl,hb,hl,hm,hm2,rfl,hel⟩
 ·exact⟨[],.inl ⟨rfl,rfl⟩,by simp[hc],qc9 (.slnil _)⟩
 ·simp only[if_true] at hm2
  subst hm2
  obtain⟨l,hl2,hq⟩:=qkd (Q:=fun i (z:α)=>Q z (D i)∧∀j,j<P.cellsOf e→∃v,W.cell? ((a.add (i*P.cellsOf e)).add j)=some v∧∀c,(R z).cells[j]? = some c→Rep W.heap.size gh0 W v c) len (by
   intro i hi
   obtain⟨cs',h1,h2⟩:=hel i (by omega)
   obtain⟨z,h3,h4,h5⟩:=h.rd _ _ _ h2
   obtain⟨h6,h7⟩:=qo0 h1
   exact⟨z,h3,fun j hj=>⟨_,h7 j hj,fun c hc=>h5 j c hc⟩⟩)
  subst hl2
  refine⟨l,.inr ⟨_,_,rfl,by simp,by omega,fun i z x h1 h2=>?_⟩,by simp[hc],qc9 ?_⟩
  ·have hi:i<l.length:=(List.getElem?_eq_some_iff.1 h1).1
   rw[List.getElem?_map,List.getElem?_range hi] at h2
   simp at h2;subst h2
   exact (hq i z h1).1
  ·by_cases h0:l=[]
   ·subst h0;exact   .sl0 a m .sh (by simp) hm
   ·have hpos:=h.pos
    have hlen:0<l.length:=List.length_pos_iff.2 h0
    obtain⟨z0,hz0⟩:∃z,l[0]? = some z:=⟨_,List.getElem?_eq_getElem hlen⟩
    obtain⟨v0,hv0,_⟩:=(hq 0 z0 hz0).2 0 hpos
    have hadd:∀(a:Addr) (i:Nat) b off,a=⟨b,off,none⟩→a.add i=⟨b,off+i,none⟩:=fun a i b off q=>by subst q;unfold Addr.add;split<;>simp_all
    obtain⟨b,off,rfl⟩:∃b off,a=⟨b,off,none⟩:=by
     obtain⟨b,off,s⟩:=a
     cases s with
     | none=>exact⟨b,off,rfl⟩
     | some s =>
      obtain⟨b',off',q⟩:=plain_addr hv0
      simp[Addr.add] at q
    have hrl:(l.map R).length=l.length:=by simp
    rw[← hrl]
    rw[hadd _ _ b off rfl,hadd _ _ b _ rfl] at hv0
    have hblk:b<W.heap.size:=World.block_lt_of_cell? W _ hv0
    have hall:∀k,k<l.length*P.cellsOf e→∃z v,l[k/P.cellsOf e]? = some z∧W.cell? ⟨b,off+k,none⟩=some v∧∀c,(R z).cells[k%P.cellsOf e]? = some c→Rep W.heap.size gh0 W v c:=by
     intro k hk
     have hki:k/P.cellsOf e<l.length:=(Nat.div_lt_iff_lt_mul hpos).2 hk
     obtain⟨z,hz⟩:∃z,l[k/P.cellsOf e]? = some z:=⟨_,List.getElem?_eq_getElem hki⟩
     obtain⟨v,hv,hr⟩:=(hq _ z hz).2 (k%P.cellsOf e) (Nat.mod_lt _ hpos)
     have:(Addr.add (Addr.add ⟨b,off,none⟩ (k/P.cellsOf e*P.cellsOf e)) (k%P.cellsOf e))=⟨b,off+k,none⟩:=by
      rw[hadd _ _ b off rfl,hadd _ _ b _ rfl]
      have:=Nat.div_add_mod k (P.cellsOf e)
      rw[Nat.mul_comm] at this
      rw[Nat.add_assoc,this]
     rw[this] at hv
     exact⟨z,v,hz,hv,hr⟩
    refine .sl b off m (P.cellsOf e) .sh (l.map R) (fun k=>(W.cell? ⟨b,off+k,none⟩).getD undef) (by simp) hpos (by simpa using hl) hm ?_ ?_ ?_
    ·intro x hx
     obtain⟨z,_,rfl⟩:=List.mem_map.1 hx
     exact h.cells z
    ·intro k hk
     obtain⟨z,v,h1,h2,h3⟩:=hall k (by simpa using hk)
     exact⟨by rw[h2];rfl,.inl hblk⟩
    ·intro i j c hc'
     obtain⟨z,hz,hzc⟩:=flat_at l i j c hc'
     have hi:i<l.length:=(List.getElem?_eq_some_iff.1 hz).1
     have hj:j<P.cellsOf e:=by rw[← (h.cells z).1];exact (List.getElem?_eq_some_iff.1 hzc).1
     obtain⟨z',v,h1,h2,h3⟩:=hall (i*P.cellsOf e+j) (by
      have:(i+1)*P.cellsOf e≤l.length*P.cellsOf e:=Nat.mul_le_mul_right _ hi
      rw[Nat.add_mul] at this;omega)
     have e1:(i*P.cellsOf e+j)/P.cellsOf e=i:=by rw[Nat.mul_comm,Nat.mul_add_div hpos,Nat.div_eq_of_lt hj];rfl
     have e2:(i*P.cellsOf e+j)%P.cellsOf e=j:=by rw[Nat.mul_comm,Nat.mul_add_mod,Nat.mod_eq_of_lt hj]
     rw[e1,hz] at h1;injection h1 with h1;subst h1
     rw[e2] at h3
     simp only[h2,Option.getD_some]
     exact h3 c hzc
def oneT (d:Option TypeDesc):Bool:=match d with
 | some (.int _)=>true
 | some .string=>true
 | some .bool=>true
 | some (.slice _)=>true
 | _=>false
theorem qvn {r:Reach} {b0:Nat} {v:Value} (hk:oneT (P.underlying t)=true) (h:Value.okWide P W r b0 t v):v.cells=#[v]:=by
 unfold Value.okWide at h
 cases hd:P.underlying t with
 | none=>rw[hd] at hk;cases hk
 | some d =>
  rw[hd] at hk h
  cases d<;>simp only[oneT,Bool.false_eq_true] at hk
  all_goals
   simp only at h
   unfold Cell.okWide at h
   rw[hd] at h
   try unfold Cell.ok at h
   try rw[hd] at h
   cases v<;>first|rfl|(simp at h)
theorem Reads.arg1 {R:α→AV} {Q:α→DataW H→Prop} (h:Reads enc P W t R Q) (hR:∀a,(R a).cells=[R a]) (hk:oneT (P.underlying t)=true) {r:Reach} {b0:Nat} {v:Value} {d:DataW H} {p:List MemPlace}
  (hv:Value.okWide P W r b0 t v) (ht:DataW.Trod enc P W 0 (fun _=>true) true t v d p):∃a,Q a d∧Rep W.heap.size gh0 W v (R a)∧pers (R a)=true∧quiet (R a)=true:=by
 obtain⟨fuel,hf⟩:=ht
 rw[qvn hk hv] at hf
 obtain⟨a,h1,h2,h3⟩:=h.rd _ _ _ hf
 have h4:=(h.cells a).2 (R a) (by rw[hR];simp)
 simp only[plain,Bool.and_eq_true] at h4
 refine⟨a,h1,by have:=h3 0 (R a) (by rw[hR];rfl);simpa using this,?_,h4.2⟩
 have h5:=h4.1
 cases hq:R a<;>rw[hq] at h5<;>first|rfl|simp[qan] at h5
theorem trodAll_keep (hl:laidOutB P=true) {W':World} (hb:Below W.heap.size W W'):∀{ts:List TypeId} {vs:List Value} {ds:List (DataW H)} {ps:List MemPlace},(∀t∈ts,P.readableRec t=true∧t<P.types.size) →
  DataW.TrodAll enc P W 0 (fun _=>true) true ts vs ds ps→(∀x∈ps,x.block<W.heap.size)→DataW.TrodAll enc P W' 0 (fun b=>decide (b<W.heap.size)) true ts vs ds ps
 | [],[],[],ps,_,h,_=>h
 | t::ts,[],[],ps,_,h,_=>by simp[DataW.TrodAll] at h
 | [],v::vs,[],ps,_,h,_=>by simp[DataW.TrodAll] at h
 | [],[],d::ds,ps,_,h,_=>by simp[DataW.TrodAll] at h
 | t::ts,v::vs,[],ps,_,h,_=>by simp[DataW.TrodAll] at h
 | t::ts,[],d::ds,ps,_,h,_=>by simp[DataW.TrodAll] at h
 | [],v::vs,d::ds,ps,_,h,_=>by simp[DataW.TrodAll] at h
 | t::ts,v::vs,d::ds,ps,ht,h,hp=>by
  obtain⟨p,q,h1,h2,rfl⟩:=h
  refine⟨p,q,Below.trod hl (ht t (by simp)).1 (ht t (by simp)).2 h1 hb fun x hx=>hp x (List.mem_append_left _ hx),?_,rfl⟩
  exact trodAll_keep hl hb (fun t h=>ht t (List.mem_cons_of_mem _ h)) h2 fun x hx=>hp x (List.mem_append_right _ hx)
theorem qej {w:World}:∀{laid:List (String×DataW Unit)} {ps:List MemPlace} {n:String} {d:DataW Unit},DataW.LaidVars P w laid ps→(n,d)∈laid →
  ∃g t cs fuel p,P.globalNamed n=some g∧(P.globals[g]?).map (·.type)=some t∧w.var? P n=some cs∧DataW.trod (fun _=>()) P w 0 (fun _=>true) false fuel t cs.toList=some (d,p)
 | [],_,_,_,_,hm=>by cases hm
 | x::r,ps,n,d,h,hm=>by
  obtain⟨g,t,cs,fuel,p,q,h1,h2,h3,h4,h5,_⟩:=h
  rcases List.mem_cons.1 hm with e|hm
  ·subst e;exact⟨g,t,cs,fuel,p,h1,h2,h3,h4⟩
  ·exact qej h5 hm
theorem tabIs_of_mem {name:String} {k:IntKind} {zs:List Int} {laid:List (String×DataW Unit)} {g:Nat} {n:Nat} (hm:(name,Lib.tabData k zs)∈laid)
  (hg:P.globalNamed name=some g) (hty:(P.globals[g]?).map (·.type)=some t) (ht:P.underlying t=some (.array n e)) (he:P.underlying e=some (.int k)) (hce:P.cellsOf e=1) (hct:P.cellsOf t=n)
  (h:laidMet P laid W):Lib.TabIs P W name k zs:=by
 obtain⟨ps,hl,_⟩:=h
 obtain⟨g',t',cs,fuel,p,hg',ht',hvar,hd⟩:=qej hl hm
 obtain rfl:=Option.some.inj (hg.symm.trans hg')
 obtain rfl:=Option.some.inj (hty.symm.trans ht')
 unfold Lib.TabIs
 rw[hvar,← Lib.cells_of_tab ht he hce hct hd]
end
end Go.AI
end
section
namespace Go.AI
open Go.RowKit Go.ChangeShapes Go.Deep Go.Joins
set_option linter.unusedVariables false
section
variable {H:Type} {enc:TypeId×Value→H} {P:Program} {W:World} {t e:TypeId}
def st2R {α β:Type} (R0:α→AV) (R1:β→AV) (x:α×β):AV:=.agg ((R0 x.1).cells++(R1 x.2).cells)
def st2Q {α β:Type} (Q0:α→DataW H→Prop) (Q1:β→DataW H→Prop) (x:α×β) (d:DataW H):Prop:=∃d0 d1,d=.agg [d0,d1]∧Q0 x.1 d0∧Q1 x.2 d1
def st3R {α β γ:Type} (R0:α→AV) (R1:β→AV) (R2:γ→AV) (x:α×β×γ):AV:=.agg ((R0 x.1).cells++(R1 x.2.1).cells++(R2 x.2.2).cells)
def st3Q {α β γ:Type} (Q0:α→DataW H→Prop) (Q1:β→DataW H→Prop) (Q2:γ→DataW H→Prop) (x:α×β×γ) (d:DataW H):Prop:=∃d0 d1 d2,d=.agg [d0,d1,d2]∧Q0 x.1 d0∧Q1 x.2.1 d1∧Q2 x.2.2 d2
def st4R {α β γ δ:Type} (R0:α→AV) (R1:β→AV) (R2:γ→AV) (R3:δ→AV) (x:α×β×γ×δ):AV:=.agg ((R0 x.1).cells++(R1 x.2.1).cells++(R2 x.2.2.1).cells++(R3 x.2.2.2).cells)
def st4Q {α β γ δ:Type} (Q0:α→DataW H→Prop) (Q1:β→DataW H→Prop) (Q2:γ→DataW H→Prop) (Q3:δ→DataW H→Prop) (x:α×β×γ×δ) (d:DataW H):Prop:=∃d0 d1 d2 d3,d=.agg [d0,d1,d2,d3]∧Q0 x.1 d0∧Q1 x.2.1 d1∧Q2 x.2.2.1 d2∧Q3 x.2.2.2 d3
end
end Go.AI
end
