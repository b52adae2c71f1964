/- Part 30 of a proof: a Go function is evaluated on abstract values (texts D16 .. D25); no conditions beyond those of each theorem. -/
import Derived.Test.YtjkkcelnfokplaaGreatDoorAi29
set_option linter.all false
set_option linter.unusedVariables false
set_option linter.unusedSimpArgs false
set_option linter.unnecessarySimpa false
section
namespace Go.Proofs.Tryz.Ai
open Go Go.AI Go.Proofs
set_option maxHeartbeats 4000000
set_option maxRecDepth 4000
set_option linter.unusedVariables false
theorem qik {e:Int} {q r:Ps} (h:stE e q=.ok r):r=q∧e=0:=by
 unfold stE at h
 split at h
 ·injection h with h;exact⟨h.symm,by assumption⟩
 ·cases h
def Keeps (R:Ps→List Tok→Except Int Ps):Prop:=∀p l q,R p l=.ok q→MfB p.f→TkB l→MfB q.f∧q.line=p.line∧q.blk=p.blk
theorem qsk:Keeps mdP:=by
 intro p l q h hf hl
 unfold mdP at h
 split at h
 ·rename_i s hw
  obtain⟨rfl,_⟩:=qik h
  have hs:=qp hl hw (List.mem_singleton_self s)
  exact⟨{hf with m:=by simp only;omega},rfl,rfl⟩
 ·cases h
theorem qsl:Keeps goP:=by
 intro p l q h hf hl
 unfold goP at h
 split at h
 ·rename_i s hw
  obtain⟨rfl,_⟩:=qik h
  have hs:=qp hl hw (List.mem_singleton_self s)
  exact⟨{hf with g:=by simp only;omega},rfl,rfl⟩
 ·cases h
theorem qsm:Keeps rqP:=by
 intro p l q h hf hl
 unfold rqP at h
 split at h
 ·rename_i s v hw
  split at h
  ·cases h
  ·rename_i hr
   obtain⟨rfl,_⟩:=qik h
   have hs:=qp hl hw (s:=s) (by simp)
   have hv:=qp hl hw (s:=v) (by simp)
   refine⟨{hf with lq:=by simp only[List.length_append,List.length_cons,List.length_nil];omega,rq:=fun x hx=>?_},rfl,rfl⟩
   rcases List.mem_append.1 hx with hx|hx
   ·exact hf.rq x hx
   ·rw[List.mem_singleton.1 hx];exact⟨by simp only;omega,by simp only;omega⟩
 ·cases h
theorem qsn:Keeps exP:=by
 intro p l q h hf hl
 unfold exP at h
 split at h
 ·rename_i s v hw
  split at h
  ·cases h
  ·rename_i hr
   obtain⟨rfl,_⟩:=qik h
   have hs:=qp hl hw (s:=s) (by simp)
   have hv:=qp hl hw (s:=v) (by simp)
   refine⟨{hf with le:=by simp only[List.length_append,List.length_cons,List.length_nil];omega,ex:=fun x hx=>?_},rfl,rfl⟩
   rcases List.mem_append.1 hx with hx|hx
   ·exact hf.ex x hx
   ·rw[List.mem_singleton.1 hx];exact⟨by simp only;omega,by simp only;omega⟩
 ·cases h
theorem qzu {l:List Tok} (hl:TkB l) {r:Rp} (h:rpW l=some r):qd7 r.1∧qd7 r.2:=by
 unfold rpW at h
 split at h
 ·rename_i a c d hw
  injection h with h;subst h
  have ha:=qp hl hw (s:=a) (by simp)
  have hc:=qp hl hw (s:=c) (by simp)
  have hd:=qp hl hw (s:=d) (by simp)
  exact⟨⟨by simp only;omega,by simp⟩,⟨by simp only;omega,by simp only;omega⟩⟩
 ·split at h
  ·rename_i a b c d hw
   injection h with h;subst h
   have ha:=qp hl hw (s:=a) (by simp)
   have hb:=qp hl hw (s:=b) (by simp)
   have hc:=qp hl hw (s:=c) (by simp)
   have hd:=qp hl hw (s:=d) (by simp)
   exact⟨⟨by simp only;omega,by simp only;omega⟩,⟨by simp only;omega,by simp only;omega⟩⟩
  ·cases h
theorem qso:Keeps rpP:=by
 intro p l q h hf hl
 unfold rpP at h
 split at h
 ·rename_i r hw
  split at h
  ·cases h
  ·rename_i hr
   obtain⟨rfl,_⟩:=qik h
   refine⟨{hf with lp:=by simp only[List.length_append,List.length_cons,List.length_nil];omega,rp:=fun x hx=>?_},rfl,rfl⟩
   rcases List.mem_append.1 hx with hx|hx
   ·exact hf.rp x hx
   ·rw[List.mem_singleton.1 hx];exact qzu hl hw
 ·cases h
theorem qzv {l:List Tok} (hl:TkB l) {r:Rt} (h:rtW l=some r):qd7 r:=by
 unfold rtW at h
 split at h
 ·rename_i a hw
  injection h with h;subst h
  have ha:=qp hl hw (s:=a) (by simp)
  exact⟨by simp only;omega,by simp only;omega⟩
 ·split at h
  ·rename_i a b hw
   injection h with h;subst h
   have ha:=qp hl hw (s:=a) (by simp)
   have hb:=qp hl hw (s:=b) (by simp)
   exact⟨by simp only;omega,by simp only;omega⟩
  ·cases h
theorem qsp:Keeps rtP:=by
 intro p l q h hf hl
 unfold rtP at h
 split at h
 ·rename_i r hw
  split at h
  ·cases h
  ·rename_i hr
   obtain⟨rfl,_⟩:=qik h
   refine⟨{hf with lt:=by simp only[List.length_append,List.length_cons,List.length_nil];omega,rt:=fun x hx=>?_},rfl,rfl⟩
   rcases List.mem_append.1 hx with hx|hx
   ·exact hf.rt x hx
   ·rw[List.mem_singleton.1 hx];exact qzv hl hw
 ·cases h
theorem qil {w:List UInt8} {g:FuncId} {R:Ps→List Tok→Except Int Ps} (h:stmG w=some (g,R)):Keeps R:=by
 unfold stmG at h
 split at h
 ·injection h with h;injection h with h1 h2;subst h2;exact qsk
 split at h
 ·injection h with h;injection h with h1 h2;subst h2;exact qsl
 split at h
 ·injection h with h;injection h with h1 h2;subst h2;exact qsm
 split at h
 ·injection h with h;injection h with h1 h2;subst h2;exact qsn
 split at h
 ·injection h with h;injection h with h1 h2;subst h2;exact qso
 split at h
 ·injection h with h;injection h with h1 h2;subst h2;exact qsp
 ·cases h
def BkOk (p:Ps):Prop:=p.blk≠[]→stmG p.blk≠none
theorem qmv {p q:Ps} {l:List Tok} (h:lineP p l=.ok q) (hf:MfB p.f) (hl:TkB l) (hk:BkOk p):MfB q.f∧q.line=p.line∧BkOk q:=by
 cases l with
 | nil=>simp only[lineP] at h;injection h with h;subst h;exact⟨hf,rfl,hk⟩
 | cons t r =>
  have hr:TkB r:=⟨by have:=hl.1;simp at this;omega,fun x hx=>hl.2 x (List.mem_cons_of_mem _ hx)⟩
  simp only[lineP] at h
  split at h
  ·split at h
   ·injection h with h;subst h;exact⟨hf,rfl,fun h=>absurd rfl h⟩
   ·split at h
    ·rename_i q0 hq
     obtain⟨h1,h2,h3⟩:=qil hq _ _ _ h hf hl
     exact⟨h1,h2,by unfold BkOk;rw[h3];exact hk⟩
    ·cases h
  ·split at h
   ·cases h
   ·rename_i q0 hq
    split at h
    ·injection h with h;subst h;exact⟨hf,rfl,fun _=>by simp only;rw[hq];simp⟩
    ·obtain⟨h1,h2,h3⟩:=qil hq _ _ _ h hf hr
     exact⟨h1,h2,by unfold BkOk;rw[h3];exact hk⟩
theorem qmw {p q:Ps} {s:List UInt8} (h:readP p s=.ok q) (hf:MfB p.f) (hs:s.length≤2^28) (hk:BkOk p):MfB q.f∧q.line=p.line+1∧BkOk q:=by
 unfold readP at h
 split at h
 ·cases h
 ·split at h
  ·cases h
  ·rename_i l hl
   have:=(qd3 s [47,47]).1
   exact qmv h hf (tokB_tk (by omega) hl) hk
def lnF:Nat→List UInt8→List (List UInt8)
 | 0,_=>[]
 | n+1,s=>if s=[] then [] else (Lib.cut s [10]).1::lnF n (Lib.cut s [10]).2.1
def lnT (s:List UInt8):List (List UInt8):=lnF s.length s
theorem qd4 {s:List UInt8} (h:s≠[]):(Lib.cut s [10]).2.1.length<s.length:=by
 have hp:=List.length_pos_iff.2 h
 unfold Lib.cut
 split
 ·simp;omega
 ·simpa using hp
theorem qns:∀(n m:Nat) (s:List UInt8),s.length≤n→s.length≤m→lnF n s=lnF m s
 | 0,0,_,_,_=>rfl
 | 0,m+1,s,h,_=>by
  have:s=[]:=List.eq_nil_of_length_eq_zero (by omega)
  subst this;simp[lnF]
 | n+1,0,s,_,h=>by
  have:s=[]:=List.eq_nil_of_length_eq_zero (by omega)
  subst this;simp[lnF]
 | n+1,m+1,s,h,k=>by
  simp only[lnF]
  split
  ·rfl
  ·rename_i hs
   have:=qd4 hs
   rw[qns n m _ (by omega) (by omega)]
theorem qju:lnT []=[]:=rfl
theorem qev {s:List UInt8} (h:s≠[]):lnT s=(Lib.cut s [10]).1::lnT (Lib.cut s [10]).2.1:=by
 have hp:=List.length_pos_iff.2 h
 obtain⟨n,hn⟩:∃n,s.length=n+1:=⟨s.length-1,by omega⟩
 have:=qd4 h
 unfold lnT
 rw[hn,lnF,if_neg h,qns n (Lib.cut s [10]).2.1.length _ (by omega) (Nat.le_refl _)]
def readLs:Ps→List (List UInt8)→Except (Int×Int) Ps
 | p,[]=>.ok p
 | p,s::r=>match readP p s with
  | .ok q=>readLs q r
  | .error e=>.error (p.line+1,e)
def ps0:Ps:=⟨⟨[],[],[],[],[],[]⟩,0,[],false,false⟩
def mf0:Mf:=⟨[],[],[],[],[],[]⟩
def parseP (text:List UInt8):Except (Int×Int) Mf :=
 if 65536<text.length then .error (0,13) else match readLs ps0 (lnT text) with
  | .error e=>.error e
  | .ok p=>match endP p with
   | .error e=>.error e
   | .ok _=>.ok (canonM p.f)
end Go.Proofs.Tryz.Ai
end
section
namespace Go.Proofs.Tryz.Ai
open Go Go.AI Go.Proofs
set_option maxHeartbeats 4000000
set_option maxRecDepth 4000
set_option linter.unusedVariables false
theorem qz2 {s:List UInt8} (x r:List UInt8) (hs:s=x++10::r) (hx:(10:UInt8)∉x):Lib.cut s [10]=(x,r,true):=by
 rw[qno,hs]
 unfold cutB
 rw[q2i hx]
 simp
theorem qfd {x r:List UInt8} (hx:(10:UInt8)∉x):lnT (x++10::r)=x::lnT r:=by
 rw[qev (by simp),qz2 x r rfl hx]
end Go.Proofs.Tryz.Ai
end
