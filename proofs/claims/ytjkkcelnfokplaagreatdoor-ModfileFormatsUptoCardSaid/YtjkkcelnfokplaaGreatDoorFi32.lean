/- Part 32 of a proof: Go functions are evaluated on abstract values; no conditions beyond those of each theorem. -/
import Derived.Test.YtjkkcelnfokplaaGreatDoorFi31
set_option linter.all false
set_option maxHeartbeats 16000000
set_option maxRecDepth 4000
section
namespace Go.Proofs.Tryz.Ai
open Go Go.AI Go.Proofs
theorem qwr {e:Int} {q r:Ps} (h:stE e q=.ok r):r=q∧e=0:=by
 unfold stE at h
 split at h
 ·injection h with h;exact⟨h.symm,by assumption⟩
 ·cases h
def Keeps (R:Ps→List Tok→Except Int Ps):Prop:=∀p l q,R p l=.ok q→MfB p.f→TkB l→MfB q.f∧q.line=p.line∧q.blk=p.blk
theorem qr2:Keeps mdP:=by
 intro p l q h hf hl
 unfold mdP at h
 split at h
 ·rename_i s hw
  obtain⟨rfl,_⟩:=qwr h
  have hs:=qbr hl hw (List.mem_singleton_self s)
  exact⟨{hf with m:=by simp only;omega},rfl,rfl⟩
 ·cases h
theorem qr3:Keeps rqP:=by
 intro p l q h hf hl
 unfold rqP at h
 split at h
 ·rename_i s v hw
  split at h
  ·cases h
  ·rename_i hr
   obtain⟨rfl,_⟩:=qwr h
   have hs:=qbr hl hw (s:=s) (by simp)
   have hv:=qbr hl hw (s:=v) (by simp)
   refine⟨{hf with lq:=by simp only[List.length_append,List.length_cons,List.length_nil];omega,rq:=fun x hx=>?_},rfl,rfl⟩
   rcases List.mem_append.1 hx with hx|hx
   ·exact hf.rq x hx
   ·rw[List.mem_singleton.1 hx];exact⟨by simp only;omega,by simp only;omega⟩
 ·cases h
theorem qmk {p q:Ps} {l:List Tok} (h:lineP p l=.ok q) (hf:MfB p.f) (hl:TkB l) (hk:p.blk=[]) (hsm:smpT l=true):MfB q.f∧q.line=p.line∧q.blk=[]:=by
 cases l with
 | nil=>simp only[lineP] at h;injection h with h;subst h;exact⟨hf,rfl,hk⟩
 | cons t r =>
  have hr:TkB r:=⟨by have:=hl.1;simp at this;omega,fun x hx=>hl.2 x (List.mem_cons_of_mem _ hx)⟩
  obtain⟨h40,g,R,hq,_,_,hR⟩:=qrz hsm
  simp only[lineP] at h
  rw[if_neg (by simpa using hk),hq] at h
  simp only at h
  rw[if_neg (by rw[h40];simp)] at h
  rcases hR with rfl|rfl
  ·obtain⟨h1,h2,h3⟩:=qr2 _ _ _ h hf hr
   exact⟨h1,h2,h3.trans hk⟩
  ·obtain⟨h1,h2,h3⟩:=qr3 _ _ _ h hf hr
   exact⟨h1,h2,h3.trans hk⟩
theorem qml {p q:Ps} {s:List UInt8} (h:readP p s=.ok q) (hf:MfB p.f) (hs:s.length≤2^28) (hk:p.blk=[]) (hsm:smpL s=true):MfB q.f∧q.line=p.line+1∧q.blk=[]:=by
 unfold smpL at hsm
 unfold readP at h
 split at h
 ·cases h
 ·split at h
  ·cases h
  ·rename_i l hl
   rw[hl] at hsm
   have:=(qet s [47,47]).1
   exact qmk h hf (tokB_tk (by omega) hl) hk hsm
def lnF:Nat→List UInt8→List (List UInt8)
 | 0,_=>[]
 | n+1,s=>if s=[] then [] else (Lib.cut s [10]).1::lnF n (Lib.cut s [10]).2.1
def lnT (s:List UInt8):List (List UInt8):=lnF s.length s
theorem qeu {s:List UInt8} (h:s≠[]):(Lib.cut s [10]).2.1.length<s.length:=by
 have hp:=List.length_pos_iff.2 h
 unfold Lib.cut
 split
 ·simp;omega
 ·simpa using hp
theorem qnr:∀(n m:Nat) (s:List UInt8),s.length≤n→s.length≤m→lnF n s=lnF m s
 | 0,0,_,_,_=>rfl
 | 0,m+1,s,h,_=>by
  have:s=[]:=List.eq_nil_of_length_eq_zero (by omega)
  subst this;simp[lnF]
 | n+1,0,s,_,h=>by
  have:s=[]:=List.eq_nil_of_length_eq_zero (by omega)
  subst this;simp[lnF]
 | n+1,m+1,s,h,k=>by
  simp only[lnF]
  split
  ·rfl
  ·rename_i hs
   have:=qeu hs
   rw[qnr n m _ (by omega) (by omega)]
theorem qr4:lnT []=[]:=rfl
theorem qfz {s:List UInt8} (h:s≠[]):lnT s=(Lib.cut s [10]).1::lnT (Lib.cut s [10]).2.1:=by
 have hp:=List.length_pos_iff.2 h
 obtain⟨n,hn⟩:∃n,s.length=n+1:=⟨s.length-1,by omega⟩
 have:=qeu h
 unfold lnT
 rw[hn,lnF,if_neg h,qnr n (Lib.cut s [10]).2.1.length _ (by omega) (Nat.le_refl _)]
def readLs:Ps→List (List UInt8)→Except (Int×Int) Ps
 | p,[]=>.ok p
 | p,s::r=>match readP p s with
  | .ok q=>readLs q r
  | .error e=>.error (p.line+1,e)
def ps0:Ps:=⟨⟨[],[],[],[],[],[]⟩,0,[],false,false⟩
def mf0:Mf:=⟨[],[],[],[],[],[]⟩
def parseP (text:List UInt8):Except (Int×Int) Mf :=
 if 65536<text.length then .error (0,13) else match readLs ps0 (lnT text) with
  | .error e=>.error e
  | .ok p=>match endP p with
   | .error e=>.error e
   | .ok _=>.ok (canonM p.f)
def smpB (text:List UInt8):Bool:=(lnT text).all smpL&&match readLs ps0 (lnT text) with
 | .ok p=>(match endP p with
  | .ok _=>true
  | .error _=>false)
 | .error _=>true
theorem qr5 {text:List UInt8} (h:smpB text=true):(lnT text).all smpL=true:=by unfold smpB at h;rw[Bool.and_eq_true] at h;exact h.1
theorem qvi {text:List UInt8} (h:smpB text=true) {p:Ps} (hp:readLs ps0 (lnT text)=.ok p) {e:Int×Int} (he:endP p=.error e):False:=by
 unfold smpB at h
 rw[hp,Bool.and_eq_true] at h
 simp only[he] at h
 exact absurd h.2 (by simp)
end Go.Proofs.Tryz.Ai
end
