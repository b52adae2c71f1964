/- Part 4 of a proof: a Go function is evaluated on abstract values (texts PlCmt .. PlCmt); no conditions beyond those of each theorem. -/
import Derived.Test.YtjkkcelnfokplaaGreatDoorAi3
import Derived.Lib.IndexMore
set_option linter.all false
set_option linter.unusedVariables false
set_option linter.unusedSimpArgs false
set_option linter.unnecessarySimpa false
section
namespace Go.AI
open Go
theorem occ2 (s:List UInt8) (a b:UInt8) (i:Nat):Lib.occAt s [a,b] i=true↔s[i]? = some a∧s[i+1]? = some b:=by
 have h0:(s.drop i)[0]? = s[i]?:=by rw[List.getElem?_drop];rfl
 have h1:(s.drop i)[1]? = s[i+1]?:=by rw[List.getElem?_drop]
 rw[← h0,← h1]
 unfold Lib.occAt
 match s.drop i with
 | []=>simp
 | [x]=>simp
 | x::y::r=>simp[List.isPrefixOf];exact⟨fun h=>⟨h.1.symm,h.2.symm⟩,fun h=>⟨h.1.symm,h.2.symm⟩⟩
structure Cmt (s pre post:List UInt8):Prop where
 app:(s=pre∧post=[])∨s=pre++47::47::post
 no:∀i:Nat,s[i]? = some 47→s[i+1]? = some 47→pre.length≤i
theorem qmd (s:List UInt8):Cmt s (Lib.cut s [47,47]).1 (Lib.cut s [47,47]).2.1:=by
 rcases Lib.index_spec s [47,47] with ⟨h1,h2⟩|⟨n,h1,h2,h3,h4⟩
 ·have e:Lib.cut s [47,47]=(s,[],false):=by unfold Lib.cut;rw[h1];rfl
  rw[e]
  refine⟨.inl ⟨rfl,rfl⟩,fun i a b=>?_⟩
  have hi:i<s.length:=(List.getElem?_eq_some_iff.1 a).1
  have:=h2 i (by omega)
  rw[(occ2 s 47 47 i).2 ⟨a,b⟩] at this;cases this
 ·have e:Lib.cut s [47,47]=(s.take n,s.drop (n+2),true):=by
   unfold Lib.cut;rw[h1,if_pos (by omega)];rfl
  rw[e]
  obtain⟨a,b⟩:=(occ2 s 47 47 n).1 h3
  obtain⟨ha,ha2⟩:=List.getElem?_eq_some_iff.1 a
  obtain⟨hb,hb2⟩:=List.getElem?_eq_some_iff.1 b
  refine⟨.inr ?_,fun i c d=>?_⟩
  ·have h1:=List.drop_eq_getElem_cons ha
   have h2:=List.drop_eq_getElem_cons hb
   rw[ha2] at h1
   rw[hb2] at h2
   simp only
   conv=>lhs;rw[← List.take_append_drop n s]
   rw[h1,h2]
  ·simp only[List.length_take]
   rcases Nat.lt_or_ge i n with hlt|hge
   ·have:=h4 i hlt
    rw[(occ2 s 47 47 i).2 ⟨c,d⟩] at this;cases this
   ·omega
theorem Cmt.le {s pre post:List UInt8} (h:Cmt s pre post):pre.length≤s.length:=by
 rcases h.app with ⟨rfl,_⟩|rfl
 ·exact Nat.le_refl _
 ·simp
theorem Cmt.get {s pre post:List UInt8} (h:Cmt s pre post) {i:Nat} (hi:i<pre.length):s[i]? = pre[i]?:=by
 rcases h.app with ⟨rfl,_⟩|rfl
 ·rfl
 ·rw[List.getElem?_append_left hi]
theorem Cmt.at {s pre post:List UInt8} (h:Cmt s pre post) (hn:pre.length<s.length):s[pre.length]? = some 47∧s[pre.length+1]? = some 47∧s.drop (pre.length+2)=post∧pre.length+2≤s.length:=by
 rcases h.app with ⟨rfl,_⟩|rfl
 ·omega
 ·refine⟨by simp,by simp,by simp,by simp⟩
theorem Cmt.none {s pre post:List UInt8} (h:Cmt s pre post) (hn:¬pre.length<s.length):s=pre∧post=[]:=by
 rcases h.app with h|rfl
 ·exact h
 ·simp at hn
theorem Cmt.before {s pre post:List UInt8} (h:Cmt s pre post) {i:Nat} (hi:i<pre.length) (h1:s[i]? = some 47):s[i+1]?≠some 47:=fun h2=>by have:=h.no i h1 h2;omega
end Go.AI
end
