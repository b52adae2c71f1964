/- Part 4 of a proof: Go functions are evaluated on abstract values; no conditions beyond those of each theorem. -/
import Derived.Test.YtjkkcelnfokplaaGreatDoorBi3
import Derived.Lib.IndexMore
set_option linter.all false
set_option maxHeartbeats 16000000
set_option maxRecDepth 4000
section
namespace Go.AI
open Go
structure Cmt (s pre post:List UInt8):Prop where
 app:(s=pre∧post=[])∨s=pre++47::47::post
 no:∀i:Nat,s[i]? = some 47→s[i+1]? = some 47→pre.length≤i
theorem Cmt.le {s pre post:List UInt8} (h:Cmt s pre post):pre.length≤s.length:=by
 rcases h.app with ⟨rfl,_⟩|rfl
 ·exact Nat.le_refl _
 ·simp
theorem Cmt.get {s pre post:List UInt8} (h:Cmt s pre post) {i:Nat} (hi:i<pre.length):s[i]? = pre[i]?:=by
 rcases h.app with ⟨rfl,_⟩|rfl
 ·rfl
 ·rw[List.getElem?_append_left hi]
theorem Cmt.at {s pre post:List UInt8} (h:Cmt s pre post) (hn:pre.length<s.length):s[pre.length]? = some 47∧s[pre.length+1]? = some 47∧s.drop (pre.length+2)=post∧pre.length+2≤s.length:=by
 rcases h.app with ⟨rfl,_⟩|rfl
 ·omega
 ·refine⟨by simp,by simp,by simp,by simp⟩
theorem Cmt.none {s pre post:List UInt8} (h:Cmt s pre post) (hn:¬pre.length<s.length):s=pre∧post=[]:=by
 rcases h.app with h|rfl
 ·exact h
 ·simp at hn
theorem Cmt.before {s pre post:List UInt8} (h:Cmt s pre post) {i:Nat} (hi:i<pre.length) (h1:s[i]? = some 47):s[i+1]?≠some 47:=fun h2=>by have:=h.no i h1 h2;omega
end Go.AI
end
