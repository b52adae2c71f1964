/- Part 41 of a proof: Go functions are evaluated on abstract values; no conditions beyond those of each theorem. -/
import Derived.Test.YtjkkcelnfokplaaGreatDoorFi40
import Derived.Test.YtjkkcelnfokplaaGreatDoorRows
set_option linter.all false
set_option maxHeartbeats 16000000
set_option maxRecDepth 4000
section
namespace Go.Proofs.YtjkkcelnfokplaaGreatDoor
open Go Go.AI
section
variable {H:Type}
theorem qvt (d:DataW H):1≤Rows.uptoBulk d:=by
 cases d with
 | lit l=>cases l<;>simp[Rows.uptoBulk]
 | _=>simp[Rows.uptoBulk]
theorem qvu (ds:List (DataW H)):ds.length≤Rows.uptoBulkAll ds∧∀d∈ds,Rows.uptoBulk d≤Rows.uptoBulkAll ds:=by
 induction ds with
 | nil=>simp
 | cons d r ih =>
  have:=qvt d
  simp only[Rows.uptoBulkAll,List.length_cons,List.mem_cons]
  refine⟨by omega,?_⟩
  rintro x (rfl|hx)
  ·omega
  ·have:=ih.2 x hx;omega
theorem qch {s:List UInt8} {d:DataW H} (h:d=.lit (.string s)∧s.length≤maxLen):s.length≤Rows.uptoBulk d:=by
 rw[h.1];simp[Rows.uptoBulk]
theorem qex {α:Type} {Q:α→DataW H→Prop} {f:α→Nat} {l:List α} {d:DataW H} (h:slQ Q l d) (hf:∀a x,Q a x→f a≤Rows.uptoBulk x):l.length≤Rows.uptoBulk d∧∀a∈l,f a≤Rows.uptoBulk d:=by
 rcases h with ⟨rfl,rfl⟩|⟨ds,rest,rfl,hl,_,hq⟩
 ·simp
 ·simp only[Rows.uptoBulk]
  have:=qvu ds
  refine⟨by omega,fun a ha=>?_⟩
  obtain⟨i,hi⟩:=List.mem_iff_getElem?.1 ha
  have hlt:=(List.getElem?_eq_some_iff.1 hi).1
  obtain⟨x,hx⟩:∃x,ds[i]? = some x:=⟨_,List.getElem?_eq_getElem (by omega)⟩
  have h1:=hf a x (hq i a x hi hx)
  have h2:=this.2 x (List.mem_of_getElem? hx)
  omega
theorem qdk {m:List UInt8×List UInt8} {d:DataW H} (h:st2Q (fun s d=>d=.lit (.string s)∧s.length≤maxLen) (fun s d=>d=.lit (.string s)∧s.length≤maxLen) m d):m.1.length+m.2.length≤Rows.uptoBulk d:=by
 obtain⟨d0,d1,rfl,q0,q1⟩:=h
 have:=qch q0
 have:=qch q1
 simp only[Rows.uptoBulk,Rows.uptoBulkAll];omega
end
end Go.Proofs.YtjkkcelnfokplaaGreatDoor
end
section
namespace Go.Proofs.YtjkkcelnfokplaaGreatDoor
open Go Go.AI
section
variable {H:Type}
theorem qvv {Qb:Bool→DataW H→Prop} {m:List UInt8×List UInt8×Bool} {d:DataW H} (h:st3Q (fun s d=>d=.lit (.string s)∧s.length≤maxLen) (fun s d=>d=.lit (.string s)∧s.length≤maxLen) Qb m d):m.1.length+m.2.1.length≤Rows.uptoBulk d:=by
 obtain⟨d0,d1,d2,rfl,q0,q1,_⟩:=h
 have:=qch q0
 have:=qch q1
 simp only[Rows.uptoBulk,Rows.uptoBulkAll];omega
theorem qvw {m:(List UInt8×List UInt8)×List UInt8×List UInt8} {d:DataW H} (h:st2Q (st2Q (fun s d=>d=.lit (.string s)∧s.length≤maxLen) (fun s d=>d=.lit (.string s)∧s.length≤maxLen)) (st2Q (fun s d=>d=.lit (.string s)∧s.length≤maxLen) (fun s d=>d=.lit (.string s)∧s.length≤maxLen)) m d):m.1.1.length+m.1.2.length+(m.2.1.length+m.2.2.length)≤Rows.uptoBulk d:=by
 obtain⟨d0,d1,rfl,q0,q1⟩:=h
 have:=qdk q0
 have:=qdk q1
 simp only[Rows.uptoBulk,Rows.uptoBulkAll];omega
theorem qpe {Qb:Bool→DataW H→Prop} {x:Go.Proofs.Tryz.Ai.MfT} {d:DataW H} (h:st6Q (fun s d=>d=.lit (.string s)∧s.length≤maxLen) (fun s d=>d=.lit (.string s)∧s.length≤maxLen)
  (slQ (st3Q (fun s d=>d=.lit (.string s)∧s.length≤maxLen) (fun s d=>d=.lit (.string s)∧s.length≤maxLen) Qb))
  (slQ (st2Q (fun s d=>d=.lit (.string s)∧s.length≤maxLen) (fun s d=>d=.lit (.string s)∧s.length≤maxLen)))
  (slQ (st2Q (st2Q (fun s d=>d=.lit (.string s)∧s.length≤maxLen) (fun s d=>d=.lit (.string s)∧s.length≤maxLen)) (st2Q (fun s d=>d=.lit (.string s)∧s.length≤maxLen) (fun s d=>d=.lit (.string s)∧s.length≤maxLen))))
  (slQ (st2Q (fun s d=>d=.lit (.string s)∧s.length≤maxLen) (fun s d=>d=.lit (.string s)∧s.length≤maxLen))) x d) (hb:Rows.uptoBulk d≤1048576):Go.Proofs.Tryz.Ai.MfSm (Go.Proofs.Tryz.Ai.mfO x):=by
 obtain⟨d0,d1,d2,d3,d4,d5,rfl,q0,q1,q2,q3,q4,q5⟩:=h
 have h0:=qch q0
 have h1:=qch q1
 have h2:=qex (f:=fun m=>m.1.length+m.2.1.length) q2 (fun a x h=>qvv h)
 have h3:=qex (f:=fun m=>m.1.length+m.2.length) q3 (fun a x h=>qdk h)
 have h4:=qex (f:=fun m=>m.1.1.length+m.1.2.length+(m.2.1.length+m.2.2.length)) q4 (fun a x h=>qvw h)
 have h5:=qex (f:=fun m=>m.1.length+m.2.length) q5 (fun a x h=>qdk h)
 simp only[Rows.uptoBulk,Rows.uptoBulkAll] at hb
 refine⟨by simp only[Go.Proofs.Tryz.Ai.mfO];omega,by simp only[Go.Proofs.Tryz.Ai.mfO];omega,by simp only[Go.Proofs.Tryz.Ai.mfO];omega,by simp only[Go.Proofs.Tryz.Ai.mfO];omega,by simp only[Go.Proofs.Tryz.Ai.mfO];omega,by simp only[Go.Proofs.Tryz.Ai.mfO];omega,fun m hm=>?_,fun m hm=>?_,fun m hm=>?_,fun m hm=>?_⟩
 ·have:=h2.2 m hm;omega
 ·have:=h3.2 m hm;omega
 ·have:=h4.2 m hm;omega
 ·have:=h5.2 m hm;omega
end
end Go.Proofs.YtjkkcelnfokplaaGreatDoor
end
