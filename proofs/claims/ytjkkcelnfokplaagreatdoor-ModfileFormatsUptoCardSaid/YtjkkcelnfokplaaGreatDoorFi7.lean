/- Part 7 of a proof: Go functions are evaluated on abstract values; no conditions beyond those of each theorem. -/
import Derived.Test.YtjkkcelnfokplaaGreatDoorFi6
import Derived.Lib.Bytealg
import GoSem.Op.String
import Derived.Lib.ItoaNum
import Derived.Lib.LastIndexLaws
import Derived.Lib.Split
import Derived.Lib.CountLaws
import Derived.Lib.AtoiAllCases
set_option linter.all false
set_option maxHeartbeats 16000000
set_option maxRecDepth 4000
section
namespace Go.AI
structure TO {α:Type} (c:α→α→Int):Prop where
 sgn:∀a b,c a b=-1∨c a b=0∨c a b=1
 flip:∀a b,c b a=- c a b
 trans:∀a b d,c a b≤0→c b d≤0→c a d≤0
 eq:∀a b,c a b=0→a=b
namespace TO
variable {α β:Type} {c:α→α→Int} {d:β→β→Int}
theorem refl (h:TO c) (a:α):c a a=0:=by have:=h.flip a a;omega
theorem lt_le (h:TO c) {a b e:α} (h1:c a b<0) (h2:c b e≤0):c a e<0:=by
 have h3:=h.trans a b e (by omega) h2
 rcases Int.lt_or_eq_of_le h3 with q|q
 ·exact q
 ·have:=h.eq _ _ q;subst this
  have:=h.flip a b;omega
theorem le_lt (h:TO c) {a b e:α} (h1:c a b≤0) (h2:c b e<0):c a e<0:=by
 have h3:=h.trans a b e h1 (by omega)
 rcases Int.lt_or_eq_of_le h3 with q|q
 ·exact q
 ·have:=h.eq _ _ q;subst this
  have:=h.flip a b;omega
theorem comap (h:TO c) (f:β→α) (hf:∀x y,f x=f y→x=y):TO fun x y=>c (f x) (f y) :=
 ⟨fun _ _=>h.sgn _ _,fun _ _=>h.flip _ _,fun _ _ _=>h.trans _ _ _,fun _ _ e=>hf _ _ (h.eq _ _ e)⟩
end TO
def orI (x y:Int):Int:=if x=0 then y else x
theorem TO.prod {α β:Type} {c:α→α→Int} {d:β→β→Int} (h:TO c) (k:TO d):TO fun (x y:α×β)=>orI (c x.1 y.1) (d x.2 y.2):=by
 refine⟨fun a b=>?_,fun a b=>?_,fun a b e=>?_,fun a b=>?_⟩
 ·unfold orI;split;exact k.sgn _ _;exact h.sgn _ _
 ·unfold orI
  have:=h.flip a.1 b.1;have:=k.flip a.2 b.2
  split<;>split<;>omega
 ·intro h1 h2
  unfold orI at h1 h2 ⊢
  by_cases q1:c a.1 b.1=0
  ·rw[if_pos q1] at h1
   have e1:=h.eq _ _ q1
   by_cases q2:c b.1 e.1=0
   ·rw[if_pos q2] at h2
    have e2:=h.eq _ _ q2
    rw[e1,e2,h.refl,if_pos rfl]
    exact k.trans _ _ _ h1 h2
   ·rw[if_neg q2] at h2
    rw[e1,if_neg q2];exact h2
  ·rw[if_neg q1] at h1
   by_cases q2:c b.1 e.1=0
   ·have e2:=h.eq _ _ q2
    rw[← e2,if_neg q1];exact h1
   ·rw[if_neg q2] at h2
    have:=h.lt_le (a:=a.1) (b:=b.1) (e:=e.1) (by omega) h2
    rw[if_neg (by omega)];omega
 ·intro e
  unfold orI at e
  split at e
  ·rename_i q;exact Prod.ext (h.eq _ _ q) (k.eq _ _ e)
  ·rename_i q;exact absurd e q
def natC (a b:Nat):Int:=if a<b then -1 else if b<a then 1 else 0
theorem TO.nat:TO natC:=by
 refine⟨fun a b=>?_,fun a b=>?_,fun a b e=>?_,fun a b=>?_⟩<;>unfold natC<;>(repeat' split)<;>omega
def u8C (a b:UInt8):Int:=natC a.toNat b.toNat
theorem TO.u8:TO u8C:=TO.nat.comap UInt8.toNat fun _ _ e=>UInt8.toNat_inj.1 e
def lexC {α:Type} (c:α→α→Int):List α→List α→Int
 | [],[]=>0
 | [],_::_=>-1
 | _::_,[]=>1
 | a::x,b::y=>orI (c a b) (lexC c x y)
theorem TO.lex {α:Type} {c:α→α→Int} (h:TO c):TO (lexC c):=by
 refine⟨fun a=>?_,fun a=>?_,fun a=>?_,fun a=>?_⟩
 ·induction a with
  | nil=>intro b;cases b<;>simp[lexC]
  | cons a x ih =>
   intro b
   cases b with
   | nil=>simp[lexC]
   | cons b y=>simp only[lexC,orI];split;exact ih y;exact h.sgn _ _
 ·induction a with
  | nil=>intro b;cases b<;>simp[lexC]
  | cons a x ih =>
   intro b
   cases b with
   | nil=>simp[lexC]
   | cons b y =>
    simp only[lexC,orI]
    have:=ih y;have:=h.flip a b
    split<;>split<;>omega
 ·induction a with
  | nil=>intro b e h1 h2;cases b<;>cases e<;>simp[lexC] at *
  | cons a x ih =>
   intro b e h1 h2
   cases b with
   | nil=>simp[lexC] at h1
   | cons b y =>
    cases e with
    | nil=>simp[lexC] at h2
    | cons e z =>
     simp only[lexC,orI] at h1 h2 ⊢
     by_cases q1:c a b=0
     ·rw[if_pos q1] at h1
      have e1:=h.eq _ _ q1;subst e1
      split at h2
      ·rename_i q2;rw[if_pos q2];exact ih _ _ h1 h2
      ·rename_i q2;rw[if_neg q2];exact h2
     ·rw[if_neg q1] at h1
      by_cases q2:c b e=0
      ·have e2:=h.eq _ _ q2;subst e2;rw[if_neg q1];exact h1
      ·rw[if_neg q2] at h2
       have:=h.lt_le (a:=a) (b:=b) (e:=e) (by omega) h2
       rw[if_neg (by omega)];omega
 ·induction a with
  | nil=>intro b e;cases b with
   | nil=>rfl
   | cons=>simp[lexC] at e
  | cons a x ih =>
   intro b e
   cases b with
   | nil=>simp[lexC] at e
   | cons b y =>
    simp only[lexC,orI] at e
    split at e
    ·rename_i q;rw[h.eq _ _ q,ih _ e]
    ·rename_i q;exact absurd e q
def bytesC:List UInt8→List UInt8→Int:=lexC u8C
theorem TO.bytes:TO bytesC:=TO.u8.lex
end Go.AI
end
section
namespace Go.AI
def ix (c:UInt8):List UInt8→Option Nat
 | []=>none
 | b::r=>if b=c then some 0 else (ix c r).map (·+1)
def ixI (c:UInt8) (l:List UInt8):Int:=match ix c l with
 | some n=>n
 | none=>-1
theorem qkf (l:List UInt8) (c:UInt8):Lib.indexByte l c=ixI c l:=by
 induction l with
 | nil=>rfl
 | cons b r ih =>
  simp only[Lib.indexByte,ih,ixI,ix,beq_iff_eq]
  split
  ·rfl
  ·cases ix c r with
   | none=>rfl
   | some n=>simp only[Option.map_some];rw[if_neg (by omega)];omega
theorem qgj {c:UInt8} {l:List UInt8}:ix c l=none↔c∉l:=by
 induction l with
 | nil=>simp[ix]
 | cons b r ih =>
  simp only[ix,List.mem_cons,not_or]
  split
  ·rename_i h;simp[h]
  ·rename_i h
   rw[Option.map_eq_none_iff,ih]
   exact⟨fun q=>⟨fun e=>h e.symm,q⟩,fun q=>q.2⟩
theorem qgk {c:UInt8} {l:List UInt8} {n:Nat} (h:ix c l=some n):n<l.length∧l[n]? = some c∧c∉l.take n∧l=l.take n++c::l.drop (n+1):=by
 induction l generalizing n with
 | nil=>simp[ix] at h
 | cons b r ih =>
  simp only[ix] at h
  split at h
  ·rename_i e;subst e;injection h with h;subst h;simp
  ·rename_i e
   obtain⟨m,hm,rfl⟩:=Option.map_eq_some_iff.1 h
   obtain⟨h1,h2,h3,h4⟩:=ih hm
   refine⟨by simp;omega,by simpa using h2,?_,?_⟩
   ·simp only[List.take_succ_cons,List.mem_cons,not_or];exact⟨fun q=>e q.symm,h3⟩
   ·simp only[List.take_succ_cons,List.drop_succ_cons,List.cons_append];rw[← h4]
theorem q02 {c:UInt8} {x y:List UInt8} (h:c∉x):ix c (x++c::y)=some x.length:=by
 induction x with
 | nil=>simp[ix]
 | cons b r ih =>
  simp only[List.mem_cons,not_or] at h
  simp only[List.cons_append,ix,if_neg (fun q=>h.1 (Eq.symm q)),ih h.2,Option.map_some,List.length_cons]
def cutB (c:UInt8) (l:List UInt8):List UInt8×List UInt8×Bool:=match ix c l with
 | some n=>(l.take n,l.drop (n+1),true)
 | none=>(l,[],false)
def splitB (c:UInt8):List UInt8→List (List UInt8)
 | []=>[[]]
 | b::r=>if b=c then []::splitB c r else match splitB c r with
  | []=>[[b]]
  | h::t=>(b::h)::t
theorem qar (c:UInt8) (l:List UInt8):splitB c l≠[]:=by
 cases l with
 | nil=>simp[splitB]
 | cons b r=>simp only[splitB];split;simp;split<;>simp
theorem qds {c:UInt8} {l:List UInt8} (h:c∉l):splitB c l=[l]:=by
 induction l with
 | nil=>rfl
 | cons b r ih =>
  simp only[List.mem_cons,not_or] at h
  simp only[splitB,if_neg (fun q=>h.1 (Eq.symm q)),ih h.2]
theorem qh5 {c:UInt8} {x y:List UInt8} (h:c∉x):splitB c (x++c::y)=x::splitB c y:=by
 induction x with
 | nil=>simp[splitB]
 | cons b r ih =>
  simp only[List.mem_cons,not_or] at h
  simp only[List.cons_append,splitB,if_neg (fun q=>h.1 (Eq.symm q)),ih h.2]
theorem qkg {c:UInt8} {l:List UInt8} {n:Nat} (h:ix c l=some n):splitB c l=l.take n::splitB c (l.drop (n+1)):=by
 obtain⟨h1,h2,h3,h4⟩:=qgk h
 conv=>lhs;rw[h4]
 exact qh5 h3
theorem qlx {c:UInt8} {l:List UInt8} (h:ix c l=none):splitB c l=[l]:=qds (qgj.1 h)
theorem qh6 (c:UInt8) (l:List UInt8):(splitB c l).length=Lib.countByte l c+1:=by
 induction l with
 | nil=>rfl
 | cons b r ih =>
  simp only[splitB,Lib.countByte] at ih ⊢
  by_cases e:b=c
  ·subst e;simp[ih]
  ·rw[if_neg e,List.count_cons_of_ne e,← ih]
   have:=qar c r
   split
   ·rename_i q;exact absurd q this
   ·rename_i q;rw[q];simp
def joinB (c:UInt8):List (List UInt8)→List UInt8
 | []=>[]
 | [x]=>x
 | x::r=>x++c::joinB c r
theorem qh7 (c:UInt8) (x:List UInt8) {r:List (List UInt8)} (h:r≠[]):joinB c (x::r)=x++c::joinB c r:=by
 cases r with
 | nil=>exact absurd rfl h
 | cons=>rfl
theorem qe2 (c:UInt8) (l:List UInt8):joinB c (splitB c l)=l:=by
 induction l with
 | nil=>rfl
 | cons b r ih =>
  simp only[splitB]
  split
  ·rename_i e;rw[qh7 _ _ (qar _ _),ih,e];rfl
  ·split
   ·rename_i q;exact absurd q (qar _ _)
   ·rename_i h t q
    rw[q] at ih
    cases t with
    | nil=>simp only[joinB] at ih ⊢;rw[ih]
    | cons y z=>rw[qh7 _ _ (by simp)] at ih ⊢;rw[← ih];rfl
def lix (c:UInt8):List UInt8→Option Nat
 | []=>none
 | b::r=>match lix c r with
  | some n=>some (n+1)
  | none=>if b=c then some 0 else none
def lixI (c:UInt8) (l:List UInt8):Int:=match lix c l with
 | some n=>n
 | none=>-1
theorem quk (c b:UInt8) (l:List UInt8):lix c (l++[b])=if b=c then some l.length else lix c l:=by
 induction l with
 | nil=>simp[lix]
 | cons a r ih =>
  simp only[List.cons_append,lix,ih]
  by_cases e:b=c
  ·simp[e]
  ·simp[e]
theorem qee {c:UInt8} {l:List UInt8} {n:Nat} (h:lix c l=some n):n<l.length∧l[n]? = some c∧c∉l.drop (n+1)∧l=l.take n++c::l.drop (n+1):=by
 induction l generalizing n with
 | nil=>simp[lix] at h
 | cons b r ih =>
  simp only[lix] at h
  split at h
  ·rename_i m hm
   injection h with h;subst h
   obtain⟨h1,h2,h3,h4⟩:=ih hm
   refine⟨by simp;omega,by simpa using h2,by simpa using h3,?_⟩
   simp only[List.take_succ_cons,List.drop_succ_cons,List.cons_append];rw[← h4]
  ·rename_i hm
   split at h
   ·rename_i e;injection h with h;subst h;subst e
    have:∀{l:List UInt8},lix b l=none→b∉l:=by
     intro l
     induction l with
     | nil=>simp
     | cons a s ih =>
      simp only[lix]
      split
      ·intro q;cases q
      ·rename_i q;split
       ·intro q;cases q
       ·rename_i e;intro _;simp only[List.mem_cons,not_or];exact⟨fun w=>e w.symm,ih q⟩
    simp[this hm]
   ·cases h
theorem qef {c:UInt8} {l:List UInt8}:lix c l=none↔c∉l:=by
 induction l with
 | nil=>simp[lix]
 | cons b r ih =>
  simp only[lix,List.mem_cons,not_or]
  cases hq:lix c r with
  | none =>
   rw[hq] at ih
   simp only[true_iff] at ih
   by_cases e:b=c
   ·simp[e]
   ·simp only[if_neg e,true_iff];exact⟨fun w=>e w.symm,ih⟩
  | some n =>
   rw[hq] at ih
   simp only[reduceCtorEq,false_iff] at ih ⊢
   exact fun q=>ih q.2
theorem qgl (c:UInt8) (l:List UInt8):(splitB c l).getLast (qar c l)=match lix c l with
  | some n=>l.drop (n+1)
  | none=>l:=by
 induction l with
 | nil=>rfl
 | cons b r ih =>
  have hne:=qar c r
  by_cases e:b=c
  ·have h1:splitB c (b::r)=[]::splitB c r:=by simp[splitB,e]
   have h2:(splitB c (b::r)).getLast (qar c _)=(splitB c r).getLast hne:=by
    simp only[h1];rw[List.getLast_cons hne]
   rw[h2,ih]
   simp only[lix,e,if_true]
   cases lix c r<;>simp
  ·obtain⟨h,t,q⟩:∃h t,splitB c r=h::t:=by cases hq:splitB c r with
    | nil=>exact absurd hq hne
    | cons h t=>exact⟨h,t,rfl⟩
   have h1:splitB c (b::r)=(b::h)::t:=by simp[splitB,e,q]
   simp only[q] at ih
   simp only[h1,lix,if_neg e]
   cases t with
   | nil =>
    simp only[List.getLast_singleton] at ih ⊢
    cases hl:lix c r with
    | none=>rw[hl] at ih;simp only at ih ⊢;rw[ih]
    | some n =>
     rw[hl] at ih;simp only at ih
     have h3:=qee hl
     have h4:c∈r:=List.mem_of_getElem? h3.2.1
     have h5:Lib.countByte r c+1=1:=by rw[← qh6,q];rfl
     have h6:=List.count_pos_iff.2 h4
     unfold Lib.countByte at h5;omega
   | cons y z =>
    rw[List.getLast_cons (by simp)] at ih ⊢
    rw[ih]
    cases hl:lix c r with
    | none =>
     rw[hl] at ih
     have h4:=qds (qef.1 hl)
     rw[q] at h4;simp at h4
    | some n=>simp
theorem qgm (a b:List UInt8):Lib.compareBytes a b=bytesC a b:=by
 induction a generalizing b with
 | nil=>cases b<;>rfl
 | cons x a ih =>
  cases b with
  | nil=>rfl
  | cons y b =>
   simp only[Lib.compareBytes,ih,bytesC,lexC,orI,u8C,natC,UInt8.lt_iff_toNat_lt]
   by_cases h1:x.toNat<y.toNat
   ·simp[h1]
   ·by_cases h2:y.toNat<x.toNat
    ·simp[h1,h2]
    ·simp[h1,h2]
theorem bytesLess_eq (a b:List UInt8):Op.bytesLess a b=decide (bytesC a b<0):=by
 induction a generalizing b with
 | nil=>cases b<;>simp[Op.bytesLess,bytesC,lexC]
 | cons x a ih =>
  cases b with
  | nil=>simp[Op.bytesLess,bytesC,lexC]
  | cons y b =>
   simp only[Op.bytesLess,ih,bytesC,lexC,orI,u8C,natC,UInt8.lt_iff_toNat_lt,beq_iff_eq]
   by_cases h1:x.toNat<y.toNat
   ·simp[h1]
   ·by_cases h2:y.toNat<x.toNat
    ·have:¬x=y:=by rintro rfl;omega
     simp[h1,h2,this]
    ·have:x=y:=UInt8.toNat_inj.1 (by omega)
     subst this
     simp only[UInt8.lt_irrefl,Nat.lt_irrefl,if_false,decide_false,Bool.false_or,true_and,if_true,decide_true,Bool.true_and,beq_self_eq_true]
     rfl
end Go.AI
namespace Go.AI
theorem qay {c:UInt8} {l x:List UInt8} (h:x∈splitB c l):x.length≤l.length:=by
 induction l generalizing x with
 | nil=>simp[splitB] at h;subst h;simp
 | cons b r ih =>
  simp only[splitB] at h
  split at h
  ·rcases List.mem_cons.1 h with rfl|h
   ·simp
   ·have:=ih h;simp;omega
  ·split at h
   ·rename_i q;exact absurd q (qar _ _)
   ·rename_i h0 t q
    rcases List.mem_cons.1 h with rfl|h
    ·have:=ih (x:=h0) (q▸List.mem_cons_self);simp;omega
    ·have:=ih (q▸List.mem_cons_of_mem _ h);simp;omega
theorem qaq (c:UInt8) (l:List UInt8):(splitB c l).length≤l.length+1:=by
 rw[qh6];have:Lib.countByte l c≤l.length:=List.count_le_length;omega
theorem qly (c:UInt8) (l:List UInt8):(cutB c l).1.length≤l.length∧(cutB c l).2.1.length≤l.length:=by
 unfold cutB
 split
 ·simp;omega
 ·simp
end Go.AI
end
section
namespace Go.AI
def isD (c:UInt8):Bool:=decide (48≤c.toNat∧c.toNat≤57)
def isU (c:UInt8):Bool:=decide (65≤c.toNat∧c.toNat≤90)
def isL (c:UInt8):Bool:=decide (97≤c.toNat∧c.toNat≤122)
def isH (c:UInt8):Bool:=decide (128≤c.toNat)
def allB (p:UInt8→Bool) (s:List UInt8):Bool:=s.all p&&!s.isEmpty
def plainB (s:List UInt8):Bool:=match s with
 | []=>false
 | c::r=>c != 48||r.isEmpty
def valB (s:List UInt8):Nat:=s.foldl (fun n c=>n*10+(c.toNat-48)) 0
def numOk (s:List UInt8):Bool:=allB isD s&&plainB s&&decide (s.length≤9)
def numB (s:List UInt8):Option Nat:=if numOk s then some (valB s) else none
def wordB (others:List UInt8) (c:UInt8):Bool:=isD c||isU c||isL c||decide (c∈others)
def idB (s:List UInt8):Bool:=allB (wordB [45]) s&&!(allB isD s&&!plainB s)
def idsB (p:List UInt8):Bool:=(splitB 46 p).all idB
structure Ver where
 ma:Nat
 mi:Nat
 pa:Nat
 pre:List UInt8
 deriving DecidableEq
def coreOf (r:List UInt8):Option (Nat×Nat×Nat):=match splitB 46 r with
 | [a,b,c]=>match numB a,numB b,numB c with
  | some x,some y,some z=>some (x,y,z)
  | _,_,_=>none
 | _=>none
def readB (s:List UInt8):Option Ver:=if 60<s.length then none else match s with
 | []=>none
 | c::r=>if c≠118 then none else match coreOf (cutB 45 r).1 with
  | none=>none
  | some (x,y,z)=>if (cutB 45 r).2.2&&!idsB (cutB 45 r).2.1 then none else some ⟨x,y,z,(cutB 45 r).2.1⟩
theorem snocInd {α:Type} {P:List α→Prop} (h0:P []) (h1:∀l c,P l→P (l++[c])) (l:List α):P l:=by
 have:∀n (l:List α),l.length=n→P l:=by
  intro n
  induction n with
  | zero=>intro l h;rw[List.length_eq_zero_iff.1 h];exact h0
  | succ n ih =>
   intro l h
   have hne:l≠[]:=by rintro rfl;simp at h
   rw[← List.dropLast_concat_getLast hne]
   exact h1 _ _ (ih _ (by simp[h]))
 exact this _ l rfl
theorem qeg (l:List UInt8) (c:UInt8):valB (l++[c])=valB l*10+(c.toNat-48):=by simp[valB,List.foldl_append]
theorem qgn (s:List UInt8) (h:s.all isD=true):valB s<10^s.length:=by
 revert h
 refine snocInd (P:=fun s=>s.all isD=true→valB s<10^s.length) ?_ ?_ s
 ·intro h;simp[valB]
 ·intro l c ih h
  rw[List.all_append,Bool.and_eq_true] at h
  have:=ih h.1
  have h2:=h.2
  simp[isD] at h2
  rw[qeg,List.length_append,List.length_singleton,Nat.pow_succ];omega
theorem qis {s:List UInt8} {n:Nat} (h:numB s=some n):n<1000000000:=by
 unfold numB at h
 split at h
 ·rename_i q
  injection h with h
  simp[numOk,allB] at q
  have:=qgn s (List.all_eq_true.2 q.1.1.1)
  have h3:10^s.length≤10^9:=Nat.pow_le_pow_right (by omega) q.2
  omega
 ·cases h
theorem q03 {c:UInt8} (h:isD c=true):UInt8.ofNat (48+(c.toNat-48))=c:=by
 simp[isD] at h
 rw[show 48+(c.toNat-48)=c.toNat by omega];simp
theorem qh8 (s:List UInt8) (h:s.all isD=true) (hp:plainB s=true):Lib.decDigits (valB s)=s:=by
 revert h hp
 refine snocInd (P:=fun s=>s.all isD=true→plainB s=true→Lib.decDigits (valB s)=s) ?_ ?_ s
 ·intro h hp;simp[plainB] at hp
 ·intro l c ih h hp
  rw[List.all_append,Bool.and_eq_true] at h
  have hc:isD c=true:=by simpa using h.2
  have hd:c.toNat-48<10:=by simp[isD] at hc;omega
  rw[qeg]
  cases l with
  | nil =>
   rw[Lib.decDigits,dif_pos (by simp[valB];omega)]
   simp[valB,q03 hc]
  | cons a r =>
   have hp':plainB (a::r)=true∧a≠48:=by
    simp[plainB] at hp ⊢;exact⟨.inl hp,hp⟩
   have hl:=ih h.1 hp'.1
   have h0:valB (a::r)≠0:=by
    intro e
    rw[e,Lib.decDigits,dif_pos (by omega)] at hl
    simp at hl
    exact hp'.2 hl.1.symm
   rw[Lib.decDigits,dif_neg (by omega),show (valB (a::r)*10+(c.toNat-48))/10=valB (a::r) by omega,show (valB (a::r)*10+(c.toNat-48))%10=c.toNat-48 by omega,hl,q03 hc]
theorem qco {s:List UInt8} {n:Nat} (h:numB s=some n):Lib.decDigits n=s:=by
 unfold numB at h
 split at h
 ·rename_i q
  injection h with h
  subst h
  simp only[numOk,allB,Bool.and_eq_true] at q
  exact qh8 s q.1.1.1 q.1.2
 ·cases h
def verT (v:Ver):List UInt8:=118::(Lib.decDigits v.ma++46::(Lib.decDigits v.mi++46::Lib.decDigits v.pa))++(if v.pre=[] then [] else 45::v.pre)
theorem qlz {r:List UInt8} {x y z:Nat} (h:coreOf r=some (x,y,z)):r=Lib.decDigits x++46::(Lib.decDigits y++46::Lib.decDigits z):=by
 unfold coreOf at h
 split at h
 ·rename_i a b c hs
  split at h
  ·rename_i x' y' z' ha hb hc
   injection h with h
   simp only[Prod.mk.injEq] at h
   obtain⟨rfl,rfl,rfl⟩:=h
   rw[qco ha,qco hb,qco hc,← qe2 46 r,hs]
   rfl
  ·cases h
 ·cases h
theorem qqw {r:List UInt8} {x y z:Nat} (h:coreOf r=some (x,y,z)):x<1000000000∧y<1000000000∧z<1000000000:=by
 unfold coreOf at h
 split at h
 ·split at h
  ·rename_i x' y' z' ha hb hc
   injection h with h
   simp only[Prod.mk.injEq] at h
   obtain⟨rfl,rfl,rfl⟩:=h
   exact⟨qis ha,qis hb,qis hc⟩
  ·cases h
 ·cases h
theorem qx1 {p:List UInt8} (h:idsB p=true):p≠[]:=by
 rintro rfl
 simp[idsB,splitB,idB,allB] at h
theorem qkh (c:UInt8) (l:List UInt8):((cutB c l).2.2=true∧l=(cutB c l).1++c::(cutB c l).2.1)∨((cutB c l).2.2=false∧(cutB c l).1=l∧(cutB c l).2.1=[]):=by
 unfold cutB
 cases h:ix c l with
 | none=>exact .inr ⟨rfl,rfl,rfl⟩
 | some n=>exact .inl ⟨rfl,(qgk h).2.2.2⟩
structure ReadAs (s:List UInt8) (v:Ver):Prop where
 text:s=verT v
 ma:v.ma<1000000000
 mi:v.mi<1000000000
 pa:v.pa<1000000000
 len:s.length≤60
 pre:v.pre=[]∨idsB v.pre=true
theorem qbp {s:List UInt8} {v:Ver} (h:readB s=some v):ReadAs s v:=by
 unfold readB at h
 split at h
 ·cases h
 ·rename_i hl
  split at h
  ·cases h
  ·rename_i c r
   split at h
   ·cases h
   ·rename_i hc
    have hc:c=118:=by simpa using hc
    subst hc
    split at h
    ·cases h
    ·rename_i x y z hcore
     split at h
     ·cases h
     ·rename_i hids
      injection h with h
      subst h
      have ht:=qlz hcore
      have hlt:=qqw hcore
      refine⟨?_,hlt.1,hlt.2.1,hlt.2.2,by omega,?_⟩
      ·rcases qkh 45 r with ⟨h1,h2⟩|⟨h1,h2,h3⟩
       ·have hp:(cutB 45 r).2.1≠[]:=by
         rw[h1] at hids
         simp at hids
         exact qx1 hids
        unfold verT
        simp only[if_neg hp]
        rw[← ht]
        conv=>lhs;rw[h2]
        simp
       ·unfold verT
        simp only[h3,if_true,List.append_nil]
        rw[← ht,h2]
      ·rcases qkh 45 r with ⟨h1,h2⟩|⟨h1,h2,h3⟩
       ·rw[h1] at hids;simp at hids;exact .inr hids
       ·exact .inl h3
theorem qqx {s t:List UInt8} {v:Ver} (h:readB s=some v) (k:readB t=some v):s=t:=(qbp h).text.trans (qbp k).text.symm
def idC (a b:List UInt8):Int:=if allB isD a=true then (if allB isD b=true then orI (natC a.length b.length) (bytesC a b) else -1) else if allB isD b=true then 1 else bytesC a b
def presC (a b:List UInt8):Int:=if a=[]∨b=[] then natC (min b.length 1) (min a.length 1) else lexC idC (splitB 46 a) (splitB 46 b)
def verC (x y:Ver):Int:=orI (natC x.ma y.ma) (orI (natC x.mi y.mi) (orI (natC x.pa y.pa) (presC x.pre y.pre)))
def cmpB (a b:List UInt8):Int:=match readB a,readB b with
 | none,none=>bytesC a b
 | none,some _=>-1
 | some _,none=>1
 | some x,some y=>verC x y
def sumC {α β:Type} (c:α→α→Int) (d:β→β→Int):α ⊕ β→α ⊕ β→Int
 | .inl a,.inl b=>c a b
 | .inl _,.inr _=>-1
 | .inr _,.inl _=>1
 | .inr a,.inr b=>d a b
theorem TO.sum {α β:Type} {c:α→α→Int} {d:β→β→Int} (h:TO c) (k:TO d):TO (sumC c d):=by
 refine⟨fun a b=>?_,fun a b=>?_,fun a b e=>?_,fun a b=>?_⟩
 ·cases a<;>cases b<;>first|exact h.sgn _ _|exact k.sgn _ _|exact .inl rfl|exact .inr (.inr rfl)
 ·cases a<;>cases b<;>first|exact h.flip _ _|exact k.flip _ _|rfl
 ·cases a<;>cases b<;>cases e<;>simp only[sumC]<;>first|exact h.trans _ _ _|exact k.trans _ _ _|(intros;omega)
 ·cases a<;>cases b<;>intro e<;>first|rw[h.eq _ _ e]|rw[k.eq _ _ e]|(simp[sumC] at e)
def idKey (a:List UInt8):(Nat×List UInt8) ⊕ List UInt8:=if allB isD a=true then .inl (a.length,a) else .inr a
theorem TO.id:TO idC:=by
 have h:=((TO.nat.prod TO.bytes).sum TO.bytes).comap idKey (by
  intro x y e
  unfold idKey at e
  split at e<;>split at e
  ·injection e with e;injection e
  ·cases e
  ·cases e
  ·injection e)
 have:idC=fun x y=>sumC (fun (x y:Nat×List UInt8)=>orI (natC x.1 y.1) (bytesC x.2 y.2)) bytesC (idKey x) (idKey y):=by
  funext x y
  unfold idC idKey
  split<;>split<;>rfl
 rw[this];exact h
theorem TO.pres:TO presC:=by
 have h:=(TO.id.lex.sum TO.nat).comap (fun p:List UInt8=>if p=[] then Sum.inr 0 else Sum.inl (splitB 46 p)) (by
  intro x y e
  split at e<;>split at e
  ·rename_i h1 h2;rw[h1,h2]
  ·cases e
  ·cases e
  ·injection e with e;rw[← qe2 46 x,e,qe2])
 have:presC=fun x y=>sumC (lexC idC) natC ((fun p:List UInt8=>if p=[] then Sum.inr 0 else Sum.inl (splitB 46 p)) x) ((fun p:List UInt8=>if p=[] then Sum.inr 0 else Sum.inl (splitB 46 p)) y):=by
  funext x y
  unfold presC
  have hm:∀l:List UInt8,l≠[]→min l.length 1=1:=fun l hl=>by cases l with
   | nil=>exact absurd rfl hl
   | cons a r=>simp
  by_cases h1:x=[]<;>by_cases h2:y=[]
  ·simp[h1,h2,sumC]
  ·simp[h1,h2,sumC,natC,hm y h2]
  ·simp[h1,h2,sumC,natC,hm x h1]
  ·simp[h1,h2,sumC]
 rw[this];exact h
theorem TO.ver:TO verC:=by
 have h:=(TO.nat.prod (TO.nat.prod (TO.nat.prod TO.pres))).comap (fun v:Ver=>(v.ma,v.mi,v.pa,v.pre)) (by
  rintro⟨⟩ ⟨⟩ e;simp only[Prod.mk.injEq] at e;obtain⟨rfl,rfl,rfl,rfl⟩:=e;rfl)
 exact h
theorem TO.cmp:TO cmpB:=by
 have h:=(TO.bytes.sum TO.ver).comap (fun s:List UInt8=>match readB s with
  | none=>Sum.inl s
  | some v=>Sum.inr v) (by
  intro x y e
  split at e<;>split at e
  ·injection e
  ·cases e
  ·cases e
  ·rename_i h1 _ _ h2;injection e with e;subst e;exact qqx h1 h2)
 have:cmpB=fun x y=>sumC bytesC verC (match readB x with
  | none=>Sum.inl x
  | some v=>Sum.inr v) (match readB y with
  | none=>Sum.inl y
  | some v=>Sum.inr v):=by
  funext x y
  unfold cmpB
  cases readB x<;>cases readB y<;>rfl
 rw[this];exact h
end Go.AI
namespace Go.AI
theorem qit (k:Nat):∀n:Nat,n<10^(k+1)→(Lib.decDigits n).length≤k+1:=by
 induction k with
 | zero=>intro n h;rw[Lib.decDigits,dif_pos (by omega)];simp
 | succ k ih =>
  intro n h
  rw[Lib.decDigits]
  split
  ·simp
  ·have:=ih (n/10) (by rw[Nat.pow_succ] at h;omega)
   simp;omega
def coreT (x y z:Nat):List UInt8:=118::(Lib.decDigits x++46::(Lib.decDigits y++46::Lib.decDigits z))
def inB (s:List UInt8) (i:Nat) (l m:List UInt8):Bool:=!(Op.bytesLess ((s.take (i+2)).drop i) l)&&(Op.bytesLess ((s.take (i+2)).drop i) m||(s.take (i+2)).drop i==m)
def stampB (s:List UInt8):Bool:=decide (s.length=14)&&(allB isD s&&(inB s 4 [48,49] [49,50]&&(inB s 6 [48,49] [51,49]&&(inB s 8 [48,48] [50,51]&&(inB s 10 [48,48] [53,57]&&inB s 12 [48,48] [53,57])))))
def isX (c:UInt8):Bool:=isD c||decide (97≤c.toNat∧c.toNat≤102)
def revB (s:List UInt8):Bool:=decide (s.length=12)&&allB isX s
def pseudoT (major:Nat) (base tr:List UInt8):List UInt8:=match readB base with
 | none=>coreT major 0 0++45::tr
 | some x=>if base=[] then coreT major 0 0++45::tr else if x.pre≠[] then base++[46,48,46]++tr else coreT x.ma x.mi (x.pa+1)++[45,48,46]++tr
def pseudoB (major:Int) (base time rev:List UInt8):List UInt8×Nat :=
 if major<0∨999999999<major then ([],6) else
 if stampB time=false∨revB rev=false then ([],15) else
 if base≠[]∧(∀x,readB base=some x→(x.ma:Int)≠major) then ([],8) else
 let out:=pseudoT major.toNat base (time++45::rev)
 if (readB out).isSome then (out,0) else ([],8)
end Go.AI
namespace Go.AI
def escC (c:UInt8):List UInt8:=if isU c=true then [33,c+32] else [c]
def escT (s:List UInt8):List UInt8:=s.flatMap escC
def escQ (c:UInt8):Bool:=c==33||isH c
def escBad (s:List UInt8):Bool:=s.any escQ
def escR (s:List UInt8):List UInt8×Nat:=if escBad s=true then ([],15) else (escT s,0)
end Go.AI
namespace Go.AI
def unT:List UInt8→Option (List UInt8)
 | []=>some []
 | [c]=>if c=33 then none else some [c]
 | c::d::r=>if c=33 then (if isL d=true then (unT r).map ((d-32)::·) else none) else (unT (d::r)).map (c::·)
def unQ (c:UInt8):Bool:=isU c||isH c
def unBad (s:List UInt8):Bool:=s.any unQ
def unR (s:List UInt8):List UInt8×Nat:=if unBad s=true then ([],15) else match unT s with
 | some t=>(t,0)
 | none=>([],15)
def elemB (o s:List UInt8):Bool:=allB (wordB o) s&&(!(decide (s.head? = some 46))&&!(decide (s.getLast? = some 46)))
def elemsB (o p:List UInt8):Bool:=(splitB 47 p).all (elemB o)
def majB:List UInt8→Option Nat
 | []=>none
 | c::r=>if c≠118 then none else match numB r with
  | none=>none
  | some n=>if n<2 then none else some n
def splitMB (p:List UInt8):List UInt8×Nat:=match lix 47 p with
 | none=>(p,0)
 | some i=>match majB (p.drop (i+1)) with
  | none=>(p,0)
  | some n=>(p.take i,n)
def oddB (c:UInt8):Bool:=isU c||(c==95||c==126)
def lastB (p:List UInt8):List UInt8:=match lix 47 p with
 | some n=>p.drop (n+1)
 | none=>p
def pathB (p:List UInt8):Nat:=if 100<p.length then 13 else
 if elemsB [45,46,95,126] p=false∨46∉(cutB 47 p).1∨(cutB 47 p).1.any oddB=true∨(cutB 47 p).1.head? = some 45 then 9 else
 if (cutB 47 p).2.2=true∧(lastB p).head? = some 118∧allB isD (lastB p).tail=true∧(splitMB p).2=0 then 10 else 0
def importB (p:List UInt8):Nat:=if 100<p.length then 13 else if elemsB [45,46,95,126,43] p=false then 9 else 0
def matchesB (v p:List UInt8):Bool:=match readB v with
 | none=>false
 | some x=>decide (x.ma=(splitMB p).2)||(decide ((splitMB p).2=0)&&decide (x.ma=1))
def checkB (p v:List UInt8):Nat:=if pathB p≠0 then pathB p else if readB v=none then 8 else if matchesB v p=false then 10 else 0
theorem qqy (p:List UInt8):lastB p∈splitB 47 p:=by
 have h:=qgl 47 p
 have:lastB p=(splitB 47 p).getLast (qar 47 p):=by rw[h];rfl
 rw[this];exact List.getLast_mem _
end Go.AI
end
section
namespace Go.AI
theorem qg9 (s sub:List UInt8) (h:1≤sub.length):(Lib.lastIndex s sub=-1∧∀j,Lib.occAt s sub j=false)∨∃i:Nat,Lib.lastIndex s sub=i∧Lib.occAt s sub i=true∧∀j,i<j→Lib.occAt s sub j=false:=by
 have far:∀j,s.length-sub.length<j→Lib.occAt s sub j=false:=by
  intro j hj
  cases hq:Lib.occAt s sub j with
  | false=>rfl
  | true =>
   have:=(List.isPrefixOf_iff_prefix.1 hq).length_le
   simp at this;omega
 have short:s.length<sub.length→∀j,Lib.occAt s sub j=false:=by
  intro hlt j
  cases hq:Lib.occAt s sub j with
  | false=>rfl
  | true =>
   have:=(List.isPrefixOf_iff_prefix.1 hq).length_le
   simp at this;omega
 unfold Lib.lastIndex
 split
 ·rename_i hl
  rcases Lib.lastOcc_spec s sub (s.length-sub.length+1) with ⟨h1,h2⟩|⟨i,h0,h1,h2,h4⟩
  ·refine .inl ⟨h1,fun j=>?_⟩
   by_cases hj:j<s.length-sub.length+1
   ·exact h2 j hj
   ·exact far j (by omega)
  ·refine .inr ⟨i,h1,h2,fun j hj=>?_⟩
   ·by_cases hj2:j<s.length-sub.length+1
    ·exact h4 j hj hj2
    ·exact far j (by omega)
 ·rename_i hl
  exact .inl ⟨rfl,short (by omega)⟩
def unl (ls:List (List UInt8)):List UInt8:=(ls.map (·++[10])).flatten
@[simp] theorem unl_nil:unl []=[]:=rfl
@[simp] theorem unl_cons (x:List UInt8) (r:List (List UInt8)):unl (x::r)=x++10::unl r:=by simp[unl]
section
variable {μ:Type} (P:List UInt8→Option μ) (tp:List UInt8→Bool)
def mapP:List (List UInt8)→Option (List μ)
 | []=>some []
 | x::r=>match P x,mapP r with
  | some a,some l=>some (a::l)
  | _,_=>none
def IsNote (s t:List UInt8) (ms:List μ):Prop:=∃ls,ls≠[]∧(∀x∈ls,(10:UInt8)∉x)∧s=t++10::unl ls∧tp t=true∧mapP P ls=some ms
def cutN (s:List UInt8):Option (List UInt8×List μ) :=
 if [10] <:+ s then (if Lib.lastIndex (s.take (s.length-1)) [10,10]<0 then none else
  if tp ((s.take (s.length-1)).take ((Lib.lastIndex (s.take (s.length-1)) [10,10]).toNat+1)) then
   (match mapP P (splitB 10 ((s.take (s.length-1)).drop ((Lib.lastIndex (s.take (s.length-1)) [10,10]).toNat+2))) with
    | some ms=>some ((s.take (s.length-1)).take ((Lib.lastIndex (s.take (s.length-1)) [10,10]).toNat+1),ms)
    | none=>none) else none) else none
variable (hP:∀x m,P x=some m→x≠[]) (htp:∀t,tp t=true→[10] <:+ t)
include hP htp
end
end Go.AI
end
section
namespace Go.AI
theorem qc9 {n:Nat} (h:n<10):Lib.decDigits n=[UInt8.ofNat (48+n)]:=Lib.decDigits_one h
theorem qiu {n:Nat} (h:¬n<10):Lib.decDigits n=Lib.decDigits (n/10)++[UInt8.ofNat (48+n%10)]:=by
 rw[Lib.decDigits,dif_neg h]
theorem qiv {k:Nat} (h:k<10):(UInt8.ofNat (48+k)).toNat=48+k:=by
 rw[UInt8.toNat_ofNat_of_lt' (by show 48+k<256;omega)]
theorem qqz {k:Nat} (h:k<10):isD (UInt8.ofNat (48+k))=true:=by
 unfold isD;rw[qiv h];simp;omega
theorem qx2 (n:Nat):(Lib.decDigits n).all isD=true:=by
 induction n using Nat.strongRecOn with
 | _ n ih =>
  by_cases h:n<10
  ·rw[qc9 h];simp only[List.all_cons,List.all_nil,qqz h,Bool.and_true]
  ·rw[qiu h,List.all_append,ih _ (by omega)]
   simp only[List.all_cons,List.all_nil,qqz (show n%10<10 by omega),Bool.and_true]
theorem ql0 (n:Nat):valB (Lib.decDigits n)=n:=by
 induction n using Nat.strongRecOn with
 | _ n ih =>
  by_cases h:n<10
  ·rw[qc9 h]
   have:valB [UInt8.ofNat (48+n)]=(UInt8.ofNat (48+n)).toNat-48:=by simp[valB]
   rw[this,qiv h];omega
  ·rw[qiu h,qeg,ih _ (by omega),qiv (by omega)];omega
theorem q04 (n:Nat):Lib.decDigits n≠[]:=by
 by_cases h:n<10
 ·rw[qc9 h];simp
 ·rw[qiu h];simp
theorem qul (n:Nat) (h0:0<n):∃c r,Lib.decDigits n=c::r∧c≠48:=by
 induction n using Nat.strongRecOn with
 | _ n ih =>
  by_cases h:n<10
  ·refine⟨_,[],qc9 h,fun e=>?_⟩
   have:=congrArg UInt8.toNat e
   rw[qiv h] at this
   have h48:(48:UInt8).toNat=48:=rfl
   omega
  ·obtain⟨c,r,h1,h2⟩:=ih (n/10) (by omega) (by omega)
   exact⟨c,r++[UInt8.ofNat (48+n%10)],by rw[qiu h,h1];rfl,h2⟩
theorem qq0 (n:Nat):plainB (Lib.decDigits n)=true:=by
 by_cases h:n<10
 ·rw[qc9 h];simp[plainB]
 ·obtain⟨c,r,h1,h2⟩:=qul n (by omega)
  rw[h1];simp[plainB,h2]
theorem qx3 {m n:Nat} (h:Lib.decDigits m=Lib.decDigits n):m=n:=by rw[← ql0 m,h,ql0]
theorem qum (n:Nat):numB (Lib.decDigits n)=if n<1000000000 then some n else none:=by
 by_cases h:n<1000000000
 ·rw[if_pos h]
  have hl:=qit 8 n (by omega)
  have hok:numOk (Lib.decDigits n)=true:=by
   simp only[numOk,allB,qx2,qq0,Bool.true_and,Bool.and_true,Bool.and_eq_true,decide_eq_true_eq,Bool.not_eq_true']
   refine⟨?_,by omega⟩
   have:=q04 n
   cases hd:Lib.decDigits n with
   | nil=>exact absurd hd this
   | cons a r=>rfl
  unfold numB
  rw[if_pos hok,ql0]
 ·rw[if_neg h]
  cases hn:numB (Lib.decDigits n) with
  | none=>rfl
  | some m =>
   have h1:=qis hn
   have h2:=qx3 (qco hn)
   omega
theorem pu10:∀(s:List UInt8) (acc:Nat),s.all isD=true→(acc+1)*10^s.length≤10^18→Lib.parseUint10 acc s=.ok (s.foldl (fun n c=>n*10+(c.toNat-48)) acc)
 | [],acc,_,_=>rfl
 | c::r,acc,h,hb=>by
  rw[List.all_cons,Bool.and_eq_true] at h
  have hd:48≤c.toNat∧c.toNat≤57:=of_decide_eq_true h.1
  have hp:0<10^r.length:=Nat.pow_pos (by omega)
  have e:(acc+1)*10^(c::r).length=((acc+1)*10)*10^r.length:=by rw[List.length_cons,Nat.pow_succ,Nat.mul_assoc,Nat.mul_comm (10^r.length) 10]
  rw[e] at hb
  have h1:(acc+1)*10≤10^18:=Nat.le_trans (Nat.le_mul_of_pos_right _ hp) hb
  have h2:(acc*10+(c.toNat-48)+1)*10^r.length≤10^18:=Nat.le_trans (Nat.mul_le_mul_right _ (by omega)) hb
  rw[Lib.parseUint10,if_pos hd,if_neg (by omega),if_neg (by omega),pu10 r _ h.2 h2]
  rfl
theorem qgo (s:List UInt8) (ha:s.all isD=true) (h0:s≠[]) (hl:s.length≤17):Lib.atoiAll s=.ok (valB s:Int):=by
 cases s with
 | nil=>exact absurd rfl h0
 | cons c r =>
  have hv:=qgn (c::r) ha
  have hp17:10^(c::r).length≤10^17:=Nat.pow_le_pow_right (by omega) hl
  have hp:=pu10 (c::r) 0 ha (by rw[Nat.zero_add,Nat.one_mul];exact Nat.le_trans hp17 (by omega))
  have hd:isD c=true:=by rw[List.all_cons,Bool.and_eq_true] at ha;exact ha.1
  have hd2:48≤c.toNat∧c.toNat≤57:=of_decide_eq_true hd
  rw[Lib.atoiAll_plain c r (by omega) (by omega)]
  unfold Lib.parseMag
  rw[if_neg (by simp),hp]
  have:(c::r).foldl (fun n c=>n*10+(c.toNat-48)) 0=valB (c::r):=rfl
  rw[this]
  show (if 9223372036854775808≤valB (c::r) then Lib.NumEnd.range else Lib.NumEnd.ok ((valB (c::r):Nat):Int))=_
  rw[if_neg (by omega)]
end Go.AI
end
section
namespace Go.AI
section
variable {α:Type} {c:α→α→Int}
def Srt (c:α→α→Int) (l:List α):Prop:=l.Pairwise fun a b=>c a b≤0
def ins1 (c:α→α→Int) (a:α):List α→List α
 | []=>[a]
 | b::r=>if c a b≤0 then a::b::r else b::ins1 c a r
def isrt (c:α→α→Int):List α→List α
 | []=>[]
 | a::r=>ins1 c a (isrt c r)
theorem qq1 (a:α) (l:List α):(ins1 c a l).Perm (a::l):=by
 induction l with
 | nil=>exact .refl _
 | cons b r ih =>
  simp only[ins1]
  split
  ·exact .refl _
  ·exact (List.Perm.cons b ih).trans (.swap a b r)
theorem qki (l:List α):(isrt c l).Perm l:=by
 induction l with
 | nil=>exact .refl _
 | cons a r ih=>exact (qq1 a _).trans (.cons a ih)
theorem qp (l:List α):(isrt c l).length=l.length:=(qki l).length_eq
theorem qac {l:List α} {a:α}:a∈isrt c l↔a∈l:=(qki l).mem_iff
theorem two {A B C:List α} {a d:α} {i j:Nat} (hi:i=A.length) (hj:j=A.length+(B.length+1)) :
  (A++a::(B++d::C))[i]? = some a∧(A++a::(B++d::C))[j]? = some d∧((A++a::(B++d::C)).set i d).set j a=A++d::(B++a::C):=by
 subst hi;subst hj
 refine⟨by simp,?_,?_⟩
 ·rw[List.getElem?_append_right (by omega)];simp
 ·simp[List.set_append_right]
end
end Go.AI
end
section
namespace Go.AI
section
variable {α:Type} {c:α→α→Int}
structure TP (c:α→α→Int):Prop where
 flip:∀a b,c b a=- c a b
 trans:∀a b d,c a b≤0→c b d≤0→c a d≤0
theorem TO.tp (h:TO c):TP c:=⟨h.flip,h.trans⟩
namespace TP
theorem refl (h:TP c) (a:α):c a a=0:=by have:=h.flip a a;omega
theorem lt_le (h:TP c) {a b e:α} (h1:c a b<0) (h2:c b e≤0):c a e<0:=by
 rcases Int.lt_or_le (c a e) 0 with q|q
 ·exact q
 ·have h3:=h.flip a e
  have:=h.trans b e a h2 (by omega)
  have:=h.flip a b;omega
theorem le_lt (h:TP c) {a b e:α} (h1:c a b≤0) (h2:c b e<0):c a e<0:=by
 rcases Int.lt_or_le (c a e) 0 with q|q
 ·exact q
 ·have h3:=h.flip a e
  have:=h.trans e a b (by omega) h1
  have:=h.flip b e;omega
theorem nlt (h:TP c) {a b:α}:¬c b a<0↔c a b≤0:=by have:=h.flip a b;omega
theorem comap {β:Type} (h:TP c) (f:β→α):TP fun x y=>c (f x) (f y):=⟨fun _ _=>h.flip _ _,fun _ _ _=>h.trans _ _ _⟩
end TP
def mrg (c:α→α→Int):List α→List α→List α
 | [],R=>R
 | a::L,[]=>a::L
 | a::L,b::R=>if c b a<0 then b::mrg c (a::L) R else a::mrg c L (b::R)
termination_by L R=>L.length+R.length
@[simp] theorem qq2 (R:List α):mrg c [] R=R:=by rw[mrg]
@[simp] theorem mrg_nil' (L:List α):mrg c L []=L:=by cases L<;>rw[mrg]
theorem qa4 (a b:α) (L R:List α):mrg c (a::L) (b::R)=if c b a<0 then b::mrg c (a::L) R else a::mrg c L (b::R):=by rw[mrg]
theorem qft (L R:List α):(mrg c L R).Perm (L++R):=by
 fun_induction mrg c L R with
 | case1 R=>exact .refl _
 | case2 a L=>simp
 | case3 a L b R h ih=>exact (List.Perm.cons b ih).trans List.perm_middle.symm
 | case4 a L b R h ih=>exact .cons a ih
theorem qeh {L1 L2 R1 R2:List α} (h1:∀a∈L1,∀b∈R2,¬c b a<0) (h2:∀b∈R1,∀a∈L2,c b a<0):mrg c (L1++L2) (R1++R2)=mrg c L1 R1++mrg c L2 R2:=by
 fun_induction mrg c L1 R1 with
 | case1 R =>
  induction R with
  | nil=>rfl
  | cons b R ih =>
   cases L2 with
   | nil=>simp
   | cons a L2 =>
    have:=h2 b (by simp) a (by simp)
    simp only[List.nil_append,List.cons_append] at *
    rw[qa4,if_pos this,ih (fun x hx=>h2 x (by simp[hx]))]
 | case2 a L =>
  generalize hA:a::L=A at *
  clear hA
  induction A with
  | nil=>rfl
  | cons a A ih =>
   cases R2 with
   | nil=>simp
   | cons b R2 =>
    have:=h1 a (by simp) b (by simp)
    simp only[List.nil_append,List.cons_append] at *
    rw[qa4,if_neg this,ih (fun x hx=>h1 x (by simp[hx]))]
 | case3 a L b R h ih =>
  simp only[List.cons_append] at *
  rw[qa4,if_pos h,ih h1 (fun x hx=>h2 x (by simp[hx]))]
 | case4 a L b R h ih =>
  simp only[List.cons_append] at *
  rw[qa4,if_neg h,ih (fun x hx=>h1 x (by simp[hx])) h2]
theorem qx4 (h:TP c) {L R:List α} (hL:Srt c L) (hR:Srt c R):Srt c (mrg c L R):=by
 fun_induction mrg c L R with
 | case1 R=>exact hR
 | case2 a L=>exact hL
 | case3 a L b R hc ih =>
  have k:=List.pairwise_cons.1 hR
  refine List.pairwise_cons.2 ⟨fun x hx=>?_,ih hL k.2⟩
  rcases List.mem_append.1 ((qft _ _).mem_iff.1 hx) with hx|hx
  ·rcases List.mem_cons.1 hx with rfl|hx
   ·omega
   ·exact h.trans _ _ _ (by omega) ((List.pairwise_cons.1 hL).1 x hx)
  ·exact k.1 x hx
 | case4 a L b R hc ih =>
  have k:=List.pairwise_cons.1 hL
  refine List.pairwise_cons.2 ⟨fun x hx=>?_,ih k.2 hR⟩
  have hab:=h.nlt.1 hc
  rcases List.mem_append.1 ((qft _ _).mem_iff.1 hx) with hx|hx
  ·exact k.1 x hx
  ·rcases List.mem_cons.1 hx with rfl|hx
   ·exact hab
   ·exact h.trans _ _ _ hab ((List.pairwise_cons.1 hR).1 x hx)
theorem qun (h:TP c) (a:α) (X Y:List α):ins1 c a (mrg c X Y)=mrg c (ins1 c a X) Y:=by
 fun_induction mrg c X Y with
 | case1 Y =>
  induction Y with
  | nil=>simp[ins1]
  | cons y Y ih =>
   simp only[ins1] at ih ⊢
   rw[qa4]
   by_cases q:c a y≤0
   ·rw[if_pos q,if_neg (h.nlt.2 q),qq2]
   ·rw[if_neg q,if_pos (by have:=h.flip a y;omega),ih]
 | case2 x X=>simp
 | case3 x X y Y hc ih =>
  simp only[ins1] at ih ⊢
  by_cases q:c a x≤0
  ·rw[if_pos q] at ih ⊢
   rw[qa4]
   by_cases p:c a y≤0
   ·rw[if_pos p,if_neg (h.nlt.2 p),qa4,if_pos hc]
   ·rw[if_neg p,if_pos (by have:=h.flip a y;omega),ih]
  ·rw[if_neg q] at ih ⊢
   have p:¬c a y≤0:=by
    intro p
    have:=h.le_lt p hc;omega
   rw[if_neg p,qa4,if_pos hc,ih]
 | case4 x X y Y hc ih =>
  simp only[ins1]
  by_cases q:c a x≤0
  ·rw[if_pos q,if_pos q,qa4,if_neg,qa4,if_neg hc]
   exact h.nlt.2 (h.trans _ _ _ q (h.nlt.1 hc))
  ·rw[if_neg q,if_neg q,qa4,if_neg hc,ih]
theorem qfu (h:TP c) (L R:List α):isrt c (L++R)=mrg c (isrt c L) (isrt c R):=by
 induction L with
 | nil=>simp[isrt]
 | cons a L ih=>simp only[List.cons_append,isrt,ih,qun h]
theorem qbe (h:TP c) (l:List α):Srt c (isrt c l):=by
 induction l with
 | nil=>simp[isrt,Srt]
 | cons a r ih =>
  have:isrt c (a::r)=mrg c [a] (isrt c r):=by rw[← List.singleton_append,qfu h];rfl
  rw[this]
  exact qx4 h (by simp[Srt]) ih
theorem qda (h:TP c) (L:List α) (x:α):isrt c (L++[x])=mrg c (isrt c L) [x]:=qfu h L [x]
theorem qq3 {L R:List α} (h1:∀a∈L,∀b∈R,¬c b a<0):mrg c L R=L++R:=by
 have:=qeh (c:=c) (L1:=L) (L2:=[]) (R1:=[]) (R2:=R) h1 (by simp)
 simpa using this
theorem qe3 {U V:List α} {x:α} (h1:∀a∈U,¬c x a<0) (h2:∀a∈V,c x a<0):mrg c (U++V) [x]=U++x::V:=by
 have:=qeh (c:=c) (L1:=U) (L2:=V) (R1:=[x]) (R2:=[]) (by simp) (by simpa using h2)
 rw[List.append_nil] at this
 rw[this,qq3 (by simpa using h1)];simp
theorem qup {U V:List α} {x:α} (h1:∀a∈U,c a x<0) (h2:∀a∈V,¬c a x<0):mrg c [x] (U++V)=U++x::V:=by
 have:=qeh (c:=c) (L1:=[]) (L2:=[x]) (R1:=U) (R2:=V) (by simp) (by simpa using h1)
 rw[List.nil_append] at this
 rw[this,qq2,qq3 (by simpa using h2)];simp
end
end Go.AI
end
section
namespace Go.AI
section
variable {α:Type}
def qiw (D:List α) (i j:Nat):List α:=match D[i]?,D[j]? with
 | some x,some y=>(D.set i y).set j x
 | _,_=>D
theorem qcp {D:List α} {i j:Nat} {x y:α} (h1:D[i]? = some x) (h2:D[j]? = some y):qiw D i j=(D.set i y).set j x:=by
 unfold qiw;rw[h1,h2]
@[simp] theorem qq4 {D:List α} {i j:Nat}:(qiw D i j).length=D.length:=by
 unfold qiw;split<;>simp
def swapN (D:List α) (x y:Nat):Nat→List α
 | 0=>D
 | n+1=>qiw (swapN D x y n) (x+n) (y+n)
@[simp] theorem q05 {D:List α} {x y n:Nat}:(swapN D x y n).length=D.length:=by
 induction n with
 | zero=>rfl
 | succ n ih=>rw[swapN,qq4,ih]
theorem quq {A B C:List α} {a d:α}:qiw (A++a::(B++d::C)) A.length (A.length+(B.length+1))=A++d::(B++a::C):=by
 have:=two (A:=A) (B:=B) (C:=C) (a:=a) (d:=d) rfl rfl
 rw[qcp this.1 this.2.1,this.2.2]
theorem qix {pre U mid V post:List α} {n:Nat} (hU:U.length=n) (hV:V.length=n) :
  swapN (pre++(U++(mid++(V++post)))) pre.length (pre.length+(n+mid.length)) n=pre++(V++(mid++(U++post))):=by
 have key:∀k,k≤n→swapN (pre++(U++(mid++(V++post)))) pre.length (pre.length+(n+mid.length)) k=pre++((V.take k++U.drop k)++(mid++((U.take k++V.drop k)++post))):=by
  intro k hk
  induction k with
  | zero=>simp[swapN]
  | succ k ih =>
   rw[swapN,ih (by omega)]
   obtain⟨u,hu⟩:∃u,U.drop k=u::U.drop (k+1):=⟨_,List.drop_eq_getElem_cons (by omega)⟩
   obtain⟨v,hv⟩:∃v,V.drop k=v::V.drop (k+1):=⟨_,List.drop_eq_getElem_cons (by omega)⟩
   have hu2:U.take (k+1)=U.take k++[u]:=by
    have e:U[k]? = some u:=by rw[← List.head?_drop,hu];rfl
    rw[List.take_succ,e];rfl
   have hv2:V.take (k+1)=V.take k++[v]:=by
    have e:V[k]? = some v:=by rw[← List.head?_drop,hv];rfl
    rw[List.take_succ,e];rfl
   rw[hu,hv,hu2,hv2]
   have:=quq (A:=pre++V.take k) (a:=u) (B:=U.drop (k+1)++(mid++U.take k)) (d:=v) (C:=V.drop (k+1)++post)
   have e1:(pre++V.take k).length=pre.length+k:=by simp;omega
   have e2:pre.length+k+((U.drop (k+1)++(mid++U.take k)).length+1)=pre.length+(n+mid.length)+k:=by simp;omega
   rw[e1,e2] at this
   simpa using this
 have:=key n (Nat.le_refl _)
 rw[this,List.take_of_length_le (by omega),List.take_of_length_le (by omega),List.drop_of_length_le (by omega),List.drop_of_length_le (by omega)]
 simp
theorem bubL {pre S rest:List α} {x y:α} {u:Nat} (h:S[u]? = some y) :
  (pre++(S.take (u+1)++x::(S.drop (u+1)++rest)))[pre.length+u]? = some y∧(pre++(S.take (u+1)++x::(S.drop (u+1)++rest)))[pre.length+(u+1)]? = some x ∧
  qiw (pre++(S.take (u+1)++x::(S.drop (u+1)++rest))) (pre.length+(u+1)) (pre.length+u)=pre++(S.take u++x::(S.drop u++rest)):=by
 have hl:u<S.length:=(List.getElem?_eq_some_iff.1 h).1
 have hd:S.drop u=y::S.drop (u+1):=by rw[List.drop_eq_getElem_cons hl];congr 1;exact (List.getElem?_eq_some_iff.1 h).2
 have ht:S.take (u+1)=S.take u++[y]:=by rw[List.take_succ,h];rfl
 rw[ht,hd]
 have e:pre++(S.take u++[y]++x::(S.drop (u+1)++rest))=(pre++S.take u)++y::([]++x::(S.drop (u+1)++rest)):=by simp
 have e1:(pre++S.take u).length=pre.length+u:=by simp;omega
 have:=two (A:=pre++S.take u) (B:=[]) (C:=S.drop (u+1)++rest) (a:=y) (d:=x) (i:=pre.length+u) (j:=pre.length+(u+1)) (by omega) (by simp;omega)
 rw[e]
 refine⟨this.1,this.2.1,?_⟩
 rw[qcp this.2.1 this.1,List.set_comm _ _ (by omega),this.2.2]
 simp
theorem bubR {pre S rest:List α} {x y:α} {u:Nat} (h:S[u]? = some y) :
  (pre++(S.take u++x::(S.drop u++rest)))[pre.length+u]? = some x∧(pre++(S.take u++x::(S.drop u++rest)))[pre.length+(u+1)]? = some y ∧
  qiw (pre++(S.take u++x::(S.drop u++rest))) (pre.length+u) (pre.length+(u+1))=pre++(S.take (u+1)++x::(S.drop (u+1)++rest)):=by
 have hl:u<S.length:=(List.getElem?_eq_some_iff.1 h).1
 have hd:S.drop u=y::S.drop (u+1):=by rw[List.drop_eq_getElem_cons hl];congr 1;exact (List.getElem?_eq_some_iff.1 h).2
 have ht:S.take (u+1)=S.take u++[y]:=by rw[List.take_succ,h];rfl
 rw[ht,hd]
 have e:pre++(S.take u++x::(y::S.drop (u+1)++rest))=(pre++S.take u)++x::([]++y::(S.drop (u+1)++rest)):=by simp
 have e1:(pre++S.take u).length=pre.length+u:=by simp;omega
 have:=two (A:=pre++S.take u) (B:=[]) (C:=S.drop (u+1)++rest) (a:=x) (d:=y) (i:=pre.length+u) (j:=pre.length+(u+1)) (by omega) (by simp;omega)
 rw[e]
 refine⟨this.1,this.2.1,?_⟩
 rw[qcp this.1 this.2.1,this.2.2]
 simp
theorem qbj {c:α→α→Int} (h:TP c) {L:List α} (hs:Srt c L) {i j:Nat} {x y:α} (hij:i≤j) (hx:L[i]? = some x) (hy:L[j]? = some y):c x y≤0:=by
 obtain⟨h1,rfl⟩:=List.getElem?_eq_some_iff.1 hx
 obtain⟨h2,rfl⟩:=List.getElem?_eq_some_iff.1 hy
 rcases Nat.lt_or_ge i j with q|q
 ·exact List.pairwise_iff_getElem.1 hs i j h1 h2 q
 ·obtain rfl:i=j:=by omega
  rw[h.refl];omega
theorem qan {L:List α} {k:Nat} {x:α} (h:x∈L.take k):∃i,i<k∧L[i]? = some x:=by
 obtain⟨i,hi⟩:=List.mem_iff_getElem?.1 h
 rw[List.getElem?_take] at hi
 split at hi
 ·exact⟨i,‹_›,hi⟩
 ·cases hi
theorem qb3 {L:List α} {k:Nat} {x:α} (h:x∈L.drop k):∃i,k≤i∧L[i]? = some x:=by
 obtain⟨i,hi⟩:=List.mem_iff_getElem?.1 h
 rw[List.getElem?_drop] at hi
 exact⟨k+i,by omega,hi⟩
def qwm (c:α→α→Int) (L R:List α) (s t:Nat):Prop:=∃x y,L[s-1]? = some x∧R[t]? = some y∧¬c y x<0
def qwn (c:α→α→Int) (L R:List α) (s t:Nat):Prop:=∃x y,L[s]? = some x∧R[t-1]? = some y∧c y x<0
theorem qx5 {c:α→α→Int} (h:TP c) {L R:List α} (hL:Srt c L) (hR:Srt c R) {s t:Nat}
  (h1:s=0∨R.length≤t∨qwm c L R s t) (h2:t=0∨L.length≤s∨qwn c L R s t) :
  mrg c L R=mrg c (L.take s) (R.take t)++mrg c (L.drop s) (R.drop t):=by
 conv=>lhs;rw[← List.take_append_drop s L,← List.take_append_drop t R]
 refine qeh (fun a ha b hb=>?_) (fun b hb a ha=>?_)
 ·obtain⟨i,hi,ha⟩:=qan ha
  obtain⟨j,hj,hb⟩:=qb3 hb
  rcases h1 with rfl|h1|⟨x,y,hx,hy,hxy⟩
  ·omega
  ·have:=(List.getElem?_eq_some_iff.1 hb).1;omega
  ·exact h.nlt.2 (h.trans _ _ _ (qbj h hL (by omega) ha hx) (h.trans _ _ _ (h.nlt.1 hxy) (qbj h hR hj hy hb)))
 ·obtain⟨i,hi,hb⟩:=qan hb
  obtain⟨j,hj,ha⟩:=qb3 ha
  rcases h2 with rfl|h2|⟨x,y,hx,hy,hxy⟩
  ·omega
  ·have:=(List.getElem?_eq_some_iff.1 ha).1;omega
  ·exact h.le_lt (qbj h hR (by omega) hb hy) (h.lt_le hxy (qbj h hL hj hx ha))
theorem qng {c:α→α→Int} {L:List α} (h:Srt c L) (k:Nat):Srt c (L.take k):=List.Pairwise.sublist (List.take_sublist k L) h
theorem qnh {c:α→α→Int} {L:List α} (h:Srt c L) (k:Nat):Srt c (L.drop k):=List.Pairwise.sublist (List.drop_sublist k L) h
def blk (c:α→α→Int) (k:Nat) (L:List α):List α:=if h:k=0∨L.length≤k then isrt c L else isrt c (L.take k)++blk c k (L.drop k)
termination_by L.length
decreasing_by simp;omega
theorem qa1 {c:α→α→Int} {k:Nat} {L:List α} (h:L.length≤k):blk c k L=isrt c L:=by rw[blk,dif_pos (.inr h)]
theorem blk_step {c:α→α→Int} {k:Nat} (hk:0<k) (L:List α):blk c k L=isrt c (L.take k)++blk c k (L.drop k):=by
 by_cases h:L.length≤k
 ·rw[qa1 h,List.take_of_length_le h,List.drop_of_length_le h,qa1 (by simp)];simp[isrt]
 ·rw[blk,dif_neg (by omega)]
theorem qq5 {c:α→α→Int} {k:Nat} (hk:0<k) (q:Nat):∀(P Q:List α),P.length=k*q→blk c k (P++Q)=blk c k P++blk c k Q:=by
 induction q with
 | zero =>
  intro P Q h
  have:P=[]:=List.length_eq_zero_iff.1 (by omega)
  subst this
  simp[qa1,isrt]
 | succ q ih =>
  intro P Q h
  rw[Nat.mul_succ] at h
  rw[blk_step hk (P++Q),blk_step hk P,List.take_append_of_le_length (by omega),List.drop_append_of_le_length (by omega),ih (P.drop k) Q (by simp;omega),List.append_assoc]
theorem blk_len {c:α→α→Int} {k:Nat} (L:List α):(blk c k L).length=L.length:=by
 fun_induction blk c k L with
 | case1=>exact qp _
 | case2 L h ih=>simp only[List.length_append,qp,ih];simp;omega
theorem qni {c:α→α→Int} {k a:Nat} (hk:0<k) {L:List α} (q:Nat) (ha:a=k*q) (h:a+k≤L.length):blk c k (L.take (a+k))=blk c k (L.take a)++isrt c ((L.drop a).take k):=by
 rw[List.take_add,qq5 hk q _ _ (by simp;omega),qa1 (L:=(L.drop a).take k) (by simp;omega)]
theorem qnj {c:α→α→Int} {k a:Nat} (hk:0<k) {L:List α} (q:Nat) (ha:a=k*q) (h:a≤L.length) (h2:L.length≤a+k):blk c k L=blk c k (L.take a)++isrt c (L.drop a):=by
 conv=>lhs;rw[← List.take_append_drop a L]
 rw[qq5 hk q _ _ (by simp;omega),qa1 (L:=L.drop a) (by simp;omega)]
def rowE (E:α→List AV) (L:List α):List AV:=L.flatMap E
variable {E:α→List AV} {sz:Nat}
theorem qei (hE:∀x,(E x).length=sz) (L:List α):(rowE E L).length=L.length*sz:=by
 induction L with
 | nil=>simp[rowE]
 | cons a L ih=>simp only[rowE,List.flatMap_cons,List.length_append,List.length_cons,hE] at ih ⊢;rw[ih,Nat.add_mul];omega
theorem qe4 (hE:∀x,(E x).length=sz) {L:List α} {i:Nat} {x:α} (h:L[i]? = some x) :
  (rowE E L).take (i*sz)=rowE E (L.take i)∧(rowE E L).drop (i*sz)=E x++rowE E (L.drop (i+1)):=by
 have hl:i<L.length:=(List.getElem?_eq_some_iff.1 h).1
 have hd:L.drop i=x::L.drop (i+1):=by rw[List.drop_eq_getElem_cons hl];congr 1;exact (List.getElem?_eq_some_iff.1 h).2
 have e:rowE E L=rowE E (L.take i)++rowE E (L.drop i):=by
  conv=>lhs;rw[← List.take_append_drop i L]
  unfold rowE;rw[List.flatMap_append]
 have e1:(rowE E (L.take i)).length=i*sz:=by rw[qei hE];simp;rw[Nat.min_eq_left (by omega)]
 constructor
 ·rw[e,← e1,List.take_left]
 ·rw[e,← e1,List.drop_left,hd];rfl
theorem qnk (hE:∀x,(E x).length=sz) (hd:∀x,(E x).map dem=E x) {L:List α} {i:Nat} {x:α} (h:L[i]? = some x):(((rowE E L).drop (i*sz)).take sz).map dem=E x:=by
 rw[(qe4 hE h).2,← hE x,List.take_left,hd]
theorem qur (hE:∀x,(E x).length=sz) {L:List α} {i:Nat} {y:α} (h:i<L.length) :
  (rowE E L).take (i*sz)++(E y++(rowE E L).drop (i*sz+sz))=rowE E (L.set i y):=by
 obtain⟨x,hx⟩:∃x,L[i]? = some x:=⟨_,List.getElem?_eq_getElem h⟩
 have:=qe4 hE hx
 rw[this.1,← List.drop_drop,this.2,List.drop_left' (hE x),List.set_eq_take_append_cons_drop,if_pos h]
 unfold rowE;rw[List.flatMap_append,List.flatMap_cons]
theorem qq6 {n:Nat} (hE:∀x,lowL n (E x)) (L:List α):lowL n (rowE E L):=by
 induction L with
 | nil=>trivial
 | cons a L ih=>unfold rowE at *;rw[List.flatMap_cons,qlt];exact⟨hE a,ih⟩
theorem qcq {σ:List (List AV)} {b:Nat} {X Y:List AV} (h:lowL σ.length Y):lowS (σ.set b X) (σ.set b Y):=by
 intro b' hb
 by_cases q:b=b'
 ·subst q;exact .inr ⟨Y,by simp at hb;simp[hb],by simpa using h⟩
 ·exact .inl (by rw[List.getElem?_set,if_neg q,List.getElem?_set,if_neg q])
end
end Go.AI
end
section
namespace Go.AI
theorem ql1 (c:UInt8) (l:List UInt8):(splitB c l)[0]? = some (cutB c l).1∧((cutB c l).2.2=true↔1<(splitB c l).length):=by
 cases h:ix c l with
 | none=>rw[qlx h];simp[cutB,h]
 | some n =>
  rw[qkg h]
  have:=qar c (l.drop (n+1))
  have h2:0<(splitB c (l.drop (n+1))).length:=List.length_pos_iff.2 this
  simp[cutB,h];omega
theorem qq7 (p:List UInt8):(splitB 47 p)[(splitB 47 p).length-1]? = some (lastB p):=by
 have h:=qgl 47 p
 have h2:lastB p=(splitB 47 p).getLast (qar 47 p):=by rw[h];rfl
 rw[h2,List.getLast_eq_getElem]
 exact List.getElem?_eq_getElem _
theorem qus (c:UInt8) (l:List UInt8):(cutB c l).2.2=true↔∃i,lix c l=some i:=by
 cases h:ix c l with
 | none =>
  have h1:=qgj.1 h
  have h2:=qef.2 h1
  simp[cutB,h,h2]
 | some n =>
  have h1:c∈l:=List.mem_of_getElem? (qgk h).2.1
  cases h2:lix c l with
  | none=>exact absurd h1 (qef.1 h2)
  | some m=>simp[cutB,h]
theorem qx6 {q:List UInt8} {n:Nat} (h:majB q=some n):2≤n:=by
 cases q with
 | nil=>cases h
 | cons c r =>
  simp only[majB] at h
  split at h
  ·cases h
  ·split at h
   ·cases h
   ·split at h
    ·cases h
    ·injection h with h;omega
theorem qkj (p:List UInt8) (h:(cutB 47 p).2.2=true):(splitMB p).2=0↔majB (lastB p)=none:=by
 obtain⟨i,hi⟩:=(qus 47 p).1 h
 have h1:lastB p=p.drop (i+1):=by simp[lastB,hi]
 unfold splitMB
 rw[hi,h1]
 cases hm:majB (p.drop (i+1)) with
 | none=>simp[hm]
 | some n=>have:=qx6 hm;simp[hm];omega
end Go.AI
end
section
namespace Go.Proofs.Tryz.Ai
open Go Go.AI Go.Proofs
theorem qnm (c:UInt8) (σ):ev 145 [.int .u8 c.toNat] σ=some (.bool (isD c),σ):=by
 refine qk func145 ntmps145 ?_
 by_cases h1:48≤c.toNat
 ·simp (maxSteps:=mS) (disch:=omega) [dT,dF,qh,isD,h1,results145]
 ·simp (maxSteps:=mS) (disch:=omega) [dT,dF,qh,isD,h1,results145]
theorem qi5 (c:UInt8) (σ):ev 137 [.int .u8 c.toNat] σ=some (.bool (isU c),σ):=by
 refine qk func137 ntmps137 ?_
 by_cases h1:65≤c.toNat
 ·simp (maxSteps:=mS) (disch:=omega) [dT,dF,qh,isU,h1,results137]
 ·simp (maxSteps:=mS) (disch:=omega) [dT,dF,qh,isU,h1,results137]
theorem qu0 (c:UInt8) (σ):ev 209 [.int .u8 c.toNat] σ=some (.bool (isL c),σ):=by
 refine qk func209 ntmps209 ?_
 by_cases h1:97≤c.toNat
 ·simp (maxSteps:=mS) (disch:=omega) [dT,dF,qh,isL,h1,results209]
 ·simp (maxSteps:=mS) (disch:=omega) [dT,dF,qh,isL,h1,results209]
theorem qbf (c:UInt8) (σ):ev 215 [.int .u8 c.toNat] σ=some (.bool (isD c),σ):=by
 refine qk func215 ntmps215 ?_
 by_cases h1:48≤c.toNat
 ·simp (maxSteps:=mS) (disch:=omega) [dT,dF,qh,isD,h1,results215]
 ·simp (maxSteps:=mS) (disch:=omega) [dT,dF,qh,isD,h1,results215]
theorem qbg (c:UInt8) (σ):ev 217 [.int .u8 c.toNat] σ=some (.bool (isU c),σ):=by
 refine qk func217 ntmps217 ?_
 by_cases h1:65≤c.toNat
 ·simp (maxSteps:=mS) (disch:=omega) [dT,dF,qh,isU,h1,results217]
 ·simp (maxSteps:=mS) (disch:=omega) [dT,dF,qh,isU,h1,results217]
theorem qbx (c:UInt8) (σ):ev 216 [.int .u8 c.toNat] σ=some (.bool (isL c),σ):=by
 refine qk func216 ntmps216 ?_
 by_cases h1:97≤c.toNat
 ·simp (maxSteps:=mS) (disch:=omega) [dT,dF,qh,isL,h1,results216]
 ·simp (maxSteps:=mS) (disch:=omega) [dT,dF,qh,isL,h1,results216]
theorem take_all {α β:Type} {s:List α} {p:α→β} {v:β} {i:Nat} (hc:i<s.length) (hn:∀x∈s.take i,p x=v) (hq:p s[i]=v):∀x∈s.take (i+1),p x=v:=by
 intro x hx
 rw[List.take_succ_eq_append_getElem hc,List.mem_append] at hx
 rcases hx with hx|hx
 ·exact hn x hx
 ·simp at hx;subst hx;exact hq
theorem qyi (s:List UInt8) (hl:s.length≤2^31) (g:Nat) (cap:List AV) (p:UInt8→Bool) (hg:g<100000) (σ:List (List AV)) (hp:∀c:UInt8,ev g (.int .u8 c.toNat::cap) σ=some (.bool (p c),σ)) :
  ev 141 [.str s,.fn g cap] σ=some (.bool (s.any p),σ):=by
 refine qk func141 ntmps141 ?_
 simp (maxSteps:=mS) (disch:=omega) [dT,dF,qh]
 refine qf (I:=fun i:Nat=>⟨[(0,.str s),(1,.fn g cap),(5,.int .i64 i)],[],σ⟩) (Pr:=fun i=>i≤s.length∧∀x∈s.take i,p x=false) (μ:=fun i=>s.length-i) (a:=0) (by simp) (by simp) ?_
 rintro i ⟨hi,hn⟩
 by_cases hc:i<s.length
 ·by_cases hq:p s[i]=true
  ·have h2:s.any p=true:=List.any_eq_true.2 ⟨_,List.getElem_mem hc,hq⟩
   simp (maxSteps:=mS) (disch:=omega) [dT,dF,qh,hc ,hg,hp,hq,h2,results141]
  ·have hq':p s[i]=false:=by simpa using hq
   simp (maxSteps:=mS) (disch:=omega) [dT,dF,qh,hc ,hg,hp,hq']
   refine⟨i+1,⟨by omega,?_⟩,by omega,by simp⟩
   exact take_all hc hn hq'
 ·have hi':i=s.length:=by omega
  subst hi'
  rw[List.take_length] at hn
  have h2:s.any p=false:=by rw[Bool.eq_false_iff];intro h;obtain⟨x,hx,hpx⟩:=List.any_eq_true.1 h;rw[hn x hx] at hpx;cases hpx
  simp (maxSteps:=mS) (disch:=omega) [dT,dF,qh,hc,h2,results141]
theorem qwp (s:List UInt8) (hl:s.length≤2^31) (g:Nat) (cap:List AV) (p:UInt8→Bool) (hg:g<100000) (σ:List (List AV)) (hp:∀c:UInt8,ev g (.int .u8 c.toNat::cap) σ=some (.bool (p c),σ)) :
  ev 144 [.str s,.fn g cap] σ=some (.bool (allB p s),σ):=by
 refine qk func144 ntmps144 ?_
 unfold allB
 simp (maxSteps:=mS) (disch:=omega) [dT,dF,qh]
 refine qf (I:=fun i:Nat=>⟨[(0,.str s),(1,.fn g cap),(5,.int .i64 i)],[],σ⟩) (Pr:=fun i=>i≤s.length∧∀x∈s.take i,p x=true) (μ:=fun i=>s.length-i) (a:=0) (by simp) (by simp) ?_
 rintro i ⟨hi,hn⟩
 by_cases hc:i<s.length
 ·by_cases hq:p s[i]=true
  ·simp (maxSteps:=mS) (disch:=omega) [dT,dF,qh,hc ,hg,hp,hq]
   refine⟨i+1,⟨by omega,?_⟩,by omega,by simp⟩
   exact take_all hc hn hq
  ·have hq':p s[i]=false:=by simpa using hq
   have h2:s.all p=false:=by
    rw[Bool.eq_false_iff];intro h;exact hq (List.all_eq_true.1 h _ (List.getElem_mem hc))
   simp (maxSteps:=mS) (disch:=omega) [dT,dF,qh,hc ,hg,hp,hq',h2,results144]
 ·have hi':i=s.length:=by omega
  subst hi'
  rw[List.take_length] at hn
  have h2:s.all p=true:=List.all_eq_true.2 hn
  cases s with
  | nil=>simp (maxSteps:=mS) (disch:=omega) [dT,dF,qh,results144]
  | cons a r=>simp (maxSteps:=mS) (disch:=omega) [dT,dF,qh,hc,h2,results144]
end Go.Proofs.Tryz.Ai
end
section
namespace Go.Proofs.Tryz.Ai
open Go Go.AI Go.Proofs
theorem qi6 (s:List UInt8) (c:UInt8) (σ):ev 224 [.str s,.int .u8 c.toNat] σ=some (.int .i64 (ixI c s),σ):=by
 rw[qux];simp[indexT,qkf]
theorem qi7 (c:UInt8) (l:List UInt8):Lib.index l [c]=ixI c l:=by
 induction l with
 | nil=>rfl
 | cons b r ih =>
  unfold Lib.index ixI
  unfold ixI at ih
  rw[ih]
  by_cases h:b=c
  ·subst h;simp[List.isPrefixOf,ix]
  ·have h':(c==b)=false:=by simpa using fun e=>h e.symm
   simp only[List.isPrefixOf,h',Bool.false_and,Bool.false_eq_true,if_false,ix,h,if_false]
   cases ix c r with
   | none=>rfl
   | some n =>
    simp only[Option.map_some]
    rw[if_neg (by simp)]
    omega
theorem qu1 (c:UInt8) (l:List UInt8):Lib.cut l [c]=cutB c l:=by
 unfold Lib.cut cutB
 rw[qi7]
 unfold ixI
 cases ix c l with
 | none=>rfl
 | some n=>simp
theorem qor (c:UInt8):∀(k:Nat) (s:List UInt8),s.count c=k→Lib.splitK [c] 0 k s=splitB c s:=by
 intro k
 induction k with
 | zero=>intro s h;rw[qds (List.count_eq_zero.1 h)];rfl
 | succ k ih =>
  intro s h
  cases hi:ix c s with
  | none=>rw[List.count_eq_zero.2 (qgj.1 hi)] at h;omega
  | some n =>
   obtain⟨h1,h2,h3,h4⟩:=qgk hi
   have hidx:Lib.index s [c]=(n:Int):=by rw[qi7];unfold ixI;rw[hi]
   unfold Lib.splitK
   rw[hidx,qkg hi,if_neg (by simp),Int.toNat_natCast]
   congr 1
   refine ih _ ?_
   have:=congrArg (List.count c) h4
   rw[List.count_append,List.count_eq_zero.2 h3,List.count_cons_self,h] at this
   show List.count c (s.drop (n+1))=k
   omega
theorem qrf (c:UInt8) (s:List UInt8):Lib.split s [c]=splitB c s:=by
 unfold Lib.split
 rw[Lib.count_one]
 exact qor c _ s rfl
theorem qgr {s:List UInt8} {c:UInt8} {j:Nat}:Lib.occAt s [c] j=true↔s[j]? = some c:=by
 unfold Lib.occAt
 rw[List.isPrefixOf_iff_prefix]
 constructor
 ·rintro⟨t,ht⟩
  have:=congrArg (·[0]?) ht
  simpa using this.symm
 ·intro h
  obtain⟨hj,he⟩:=List.getElem?_eq_some_iff.1 h
  rw[List.drop_eq_getElem_cons hj,he]
  exact⟨_,rfl⟩
theorem qi8 (c:UInt8) (s:List UInt8):Lib.lastIndex s [c]=lixI c s:=by
 unfold lixI
 rcases qg9 s [c] (by simp) with ⟨h1,h2⟩|⟨i,h1,h2,h3⟩
 ·have:lix c s=none:=by
   rw[qef]
   intro hm
   obtain⟨j,hj⟩:=List.mem_iff_getElem?.1 hm
   have:=h2 j
   rw[qgr.2 hj] at this;cases this
  rw[h1,this]
 ·have hi:=qgr.1 h2
  cases hq:lix c s with
  | none=>exact absurd (List.mem_of_getElem? hi) (qef.1 hq)
  | some n =>
   obtain⟨g1,g2,g3,g4⟩:=qee hq
   rw[h1]
   simp only
   have:i=n:=by
    rcases Nat.lt_trichotomy i n with h|h|h
    ·have:=h3 n h;rw[qgr.2 g2] at this;cases this
    ·exact h
    ·exact absurd (List.mem_iff_getElem?.2 ⟨i-(n+1),by rw[List.getElem?_drop,show n+1+(i-(n+1))=i by omega];exact hi⟩) g3
   rw[this]
theorem qdb (s:List UInt8) (c:UInt8) (σ):ev 176 [.str s,.int .u8 c.toNat] σ=some (.int .i64 (ixI c s),σ):=by
 have h1:=qi6 s c
 refine qk func176 ntmps176 ?_
 simp (maxSteps:=mS) [h1,results176]
theorem qdt (c:UInt8) (s:List UInt8):(0≤ixI c s)↔c∈s:=by
 unfold ixI
 cases h:ix c s with
 | none=>have:=qgj.1 h;simp[this]
 | some n=>have:=(qgk h).2.1;simp[List.mem_of_getElem? this]
theorem qks (s:List UInt8) (hs:s.length≤2^31) (c:UInt8) (σ):ev 140 [.str s,.str [c]] σ=some (.bool (decide (c∈s)),σ):=by
 rw[ql8]
 simp only[containsT]
 rw[qo (by omega)]
 have:Lib.contains s [c]=decide (c∈s):=by
  unfold Lib.contains
  rw[qi7,Bool.eq_iff_iff]
  simp[qdt]
 rw[this]
theorem qrg (s:List UInt8) (hl:s.length≤2^31) (c:UInt8) (σ):ev 33 [.str s,.str [c]] σ=some (.tup [.str (cutB c s).1,.str (cutB c s).2.1,.bool (cutB c s).2.2],σ):=by
 rw[qnl]
 simp only[cutT]
 rw[qo (by omega),qu1]
theorem qej (s:List UInt8) (hl:s.length≤2^31) (c:UInt8) (σ):ev 142 [.str s,.str [c]] σ=some (.int .i64 (lixI c s),σ):=by
 rw[qkp]
 simp only[lastIndexT]
 rw[qo (by omega),qi8]
theorem qdc (s:List UInt8) (hl:s.length≤2^30) (c:UInt8) (σ):ev 191 [.str s,.str [c]] σ=some (.sl (.ex 9 1) ((splitB c s).map .str),σ):=by
 rw[quy]
 simp only[splitT]
 rw[qo ⟨by omega,by simp⟩,qrf]
theorem qyj (s:List UInt8) (h1:s.all isD=true) (h2:s≠[]) (h3:s.length≤9) (σ):ev 134 [.str s] σ=some (.tup [.int .i64 (valB s),.nili],σ):=by
 rw[qrd]
 simp only[atoiT]
 rw[qo (by omega),qgo s h1 h2 (by omega)]
theorem qfh (a b:List UInt8) (ha:a.length≤2^31) (hb:b.length≤2^31) (σ):ev 133 [.str a,.str b] σ=some (.tup [.str (if b.isPrefixOf a then a.drop b.length else a),.bool (b.isPrefixOf a)],σ):=by
 rw[qkq]
 simp only[cutPrefixT]
 first
  | rfl
  | (rw[qo (by omega)];rfl)
end Go.Proofs.Tryz.Ai
end
section
namespace Go.Proofs.Tryz.Ai
open Go Go.AI Go.Proofs
theorem qgs (s:List UInt8) (hl:s.length≤2^31) (σ):ev 144 [.str s,.fn 145 []] σ=some (.bool (allB isD s),σ) :=
 qwp s hl _ _ _ (by decide) σ fun c=>qnm c σ
theorem plain_eq (s:List UInt8) (σ):ev 241 [.str s] σ=some (.bool (plainB s),σ):=by
 refine qk func241 ntmps241 ?_
 cases s with
 | nil=>simp (maxSteps:=mS) [plainB,results241]
 | cons c r =>
  cases r with
  | nil =>
   by_cases hc:c=48
   ·subst hc;simp (maxSteps:=mS) [plainB,results241]
   ·simp (maxSteps:=mS) [plainB,hc,results241]
  | cons d r =>
   by_cases hc:c=48
   ·subst hc;simp (maxSteps:=mS) [plainB,results241]
   ·simp (maxSteps:=mS) [plainB,hc,results241]
theorem qce (s:List UInt8) (hl:s.length≤2^31) (σ):ev 192 [.str s] σ=some (.tup [.int .i64 ((numB s).getD 0),.bool (numB s).isSome],σ):=by
 have ha:=qgs s hl
 have hp:=plain_eq s
 refine qk func192 ntmps192 ?_
 by_cases h1:allB isD s=true
 ·by_cases h2:plainB s=true
  ·by_cases h3:s.length≤9
   ·have h4:numB s=some (valB s):=by simp[numB,numOk,h1,h2,h3]
    have h5:s.all isD=true∧s≠[]:=by simpa[allB] using h1
    have hA:=qyj s h5.1 h5.2 h3
    have h6:¬9<s.length:=by omega
    simp (maxSteps:=mS) [ha,hp,h1,h2,h6,hA,h4,results192]
   ·have h4:numB s=none:=by simp[numB,numOk,h3]
    have h6:9<s.length:=by omega
    simp (maxSteps:=mS) [ha,hp,h1,h2,h6,h4,results192]
  ·have h4:numB s=none:=by simp[numB,numOk,h2]
   simp (maxSteps:=mS) [ha,hp,h1,h2,h4,results192]
 ·have h4:numB s=none:=by simp[numB,numOk,h1]
  simp (maxSteps:=mS) [ha,hp,h1,h4,results192]
theorem qrh (o:List UInt8) (σ):ev 139 [.str o] σ=some (.fn 208 [.gp σ.length 0 (some (9,1))],σ++[[.str o]]):=by
 refine qk func139 ntmps139 ?_
 simp (maxSteps:=mS) [results139]
theorem qu2 (o:List UInt8) (b:Nat) (sh) (c:UInt8) (σ:List (List AV)) (hb:σ[b]? = some [.str o]):ev 208 [.int .u8 c.toNat,.gp b 0 sh] σ=some (.bool (wordB o c),σ):=by
 have h1:=qnm c
 have h2:=qi5 c
 have h3:=qu0 c
 have h4:=qdb o c
 have h5:=qdt c o
 refine qk func208 ntmps208 ?_
 by_cases d1:isD c=true
 ·simp (maxSteps:=mS) [-getElem?_pos,h1,d1,wordB,results208]
 ·by_cases d2:isU c=true
  ·simp (maxSteps:=mS) [-getElem?_pos,h1,h2,d1,d2,wordB,results208]
  ·by_cases d3:isL c=true
   ·simp (maxSteps:=mS) [-getElem?_pos,h1,h2,h3,d1,d2,d3,wordB,results208]
   ·simp (maxSteps:=mS) [-getElem?_pos,h1,h2,h3,h4,h5,hb,d1,d2,d3,wordB,results208]
theorem qri (s o:List UInt8) (hl:s.length≤2^31) (b:Nat) (sh) (σ:List (List AV)) (hb:σ[b]? = some [.str o]):ev 144 [.str s,.fn 208 [.gp b 0 sh]] σ=some (.bool (allB (wordB o) s),σ) :=
 qwp s hl _ _ _ (by decide) σ fun c=>qu2 o b sh c σ hb
end Go.Proofs.Tryz.Ai
end
section
namespace Go.Proofs.Tryz.Ai
open Go Go.AI Go.Proofs
def es:List UInt8→List AV:=fun x=>[.str x]
end Go.Proofs.Tryz.Ai
end
section
namespace Go.Proofs.Tryz.Ai
open Go Go.AI Go.Proofs
structure CmpOk (g:Nat) (c:List UInt8→List UInt8→Int) (Q:List UInt8→Prop):Prop where
 tp:TP c
 lt:g<100000
 run:∀x y,Q x→Q y→∀σ,ev g [.str x,.str y] σ=some (.int .i64 (c x y),σ)
end Go.Proofs.Tryz.Ai
end
section
namespace Go.Proofs.Tryz.Ai
open Go Go.AI Go.Proofs
end Go.Proofs.Tryz.Ai
end
section
namespace Go.Proofs.Tryz.Ai
open Go Go.AI Go.Proofs
theorem half_w {i j:Nat} (h:i+j≤2^31):IntKind.i64.wrap ((i:Int)+j)=((i+j:Nat):Int)∧IntKind.u64.wrap (((i+j:Nat):Int))=((i+j:Nat):Int)∧Int.fdiv ((i+j:Nat):Int) (2^min 1 IntKind.u64.bits)=(((i+j)/2:Nat):Int)∧IntKind.i64.wrap (((i+j)/2:Nat):Int)=(((i+j)/2:Nat):Int):=by
 refine⟨by rw[qh (by omega)];omega,qxr (by omega),by rw[show ((2:Int)^min 1 IntKind.u64.bits)=2 from by decide,Int.fdiv_eq_ediv_of_nonneg _ (by omega)];omega,qh (by omega)⟩
end Go.Proofs.Tryz.Ai
end
section
namespace Go.Proofs.Tryz.Ai
open Go Go.AI Go.Proofs
theorem qos {o:Option (Ex×St)} {st2:St} {K:Ex→St→Prop} (e:o=some (.normal,st2)) (k:K .normal st2):Post o K:=⟨_,_,e,k⟩
theorem qu3 {l r a m e N:Nat} (hm:m=a+l) (he:e=m+r) (heN:e≤N) (hN:N≤2^30) (hl:2≤l) (hr:2≤r):∃mid nn p0 S0 S1:Nat,
  (a≤S0∧S0≤S1∧S1≤mid∧S1≤m∧mid≤S0+r∧(S0=a∨mid=S0+r)∧(S1=mid∨S1=m)∧nn=mid+m∧p0+1=nn∧a<mid∧mid<e) ∧
  IntKind.i64.wrap ((a:Int)+e)=((a+e:Nat):Int)∧IntKind.u64.wrap (((a+e:Nat):Int))=((a+e:Nat):Int)∧Int.fdiv ((a+e:Nat):Int) (2^min 1 IntKind.u64.bits)=(mid:Int)∧IntKind.i64.wrap (mid:Int)=(mid:Int) ∧
  IntKind.i64.wrap ((mid:Int)+m)=(nn:Int)∧IntKind.i64.wrap ((nn:Int)-1)=(p0:Int)∧(mid<m→IntKind.i64.wrap ((nn:Int)-e)=(S0:Int)∧S1=mid)∧(¬mid<m→S0=a∧S1=m):=by
 have hmw:=half_w (i:=a) (j:=e) (by omega)
 obtain⟨h1,h2,h3,h4⟩:=hmw
 refine⟨(a+e)/2,(a+e)/2+m,(a+e)/2+m-1,if (a+e)/2<m then (a+e)/2+m-e else a,if (a+e)/2<m then (a+e)/2 else m,?_,h1,h2,h3,h4,?_,?_,fun q=>?_,fun q=>?_⟩
 ·clear h1 h2 h3 h4
  split<;>omega
 ·rw[qh (by omega)];omega
 ·rw[qh (by omega)];omega
 ·rw[if_pos q,if_pos q];exact⟨by rw[qh (by omega)];omega,rfl⟩
 ·rw[if_neg q,if_neg q];exact⟨rfl,rfl⟩
end Go.Proofs.Tryz.Ai
end
