/- Part 18 of a proof: Go functions are evaluated on abstract values; no conditions beyond those of each theorem. -/
import Derived.Test.YtjkkcelnfokplaaGreatDoorFi17
set_option linter.all false
set_option maxHeartbeats 16000000
set_option maxRecDepth 4000
section
namespace Go.Proofs.Tryz.Ai
open Go Go.AI Go.Proofs
theorem qku (s:List UInt8) (hl:s.length≤2^30) (c:UInt8) (σ):ev 36 [.str s,.int .u8 c.toNat] σ=some (.sl (.ex 9 1) ((splitB c s).map .str),σ):=by
 refine qk func36 ntmps36 ?_
 simp (maxSteps:=mS) (disch:=omega) [dT,dF,qh]
 refine qf (I:=fun p:List (List UInt8)×Nat×Nat=>⟨[(0,.str s),(1,.int .u8 c.toNat),(5,.sl (.ex 9 1) (p.1.map .str)),(6,.int .i64 p.2.1),(7,.int .i64 p.2.2)],[],σ⟩)
  (Pr:=fun p=>(p.2.2≤s.length∧p.2.1≤p.2.2∧c∉(s.take p.2.2).drop p.2.1∧p.1++splitB c (s.drop p.2.1)=splitB c s)∨(p.2.2=s.length+1∧p.1=splitB c s)) (μ:=fun p=>s.length+1-p.2.2) (a:=([],0,0)) (by simp) (by simp) ?_
 rintro⟨a,f,i⟩ h
 simp only at h ⊢
 rcases h with ⟨hi,hf,hn,he⟩|⟨hi,he⟩
 ·have hlen:a.length+1≤most:=by
   have h1:=congrArg List.length he
   have h2:=qaq c s
   have h3:=qar c (s.drop f)
   have h4:(splitB c (s.drop f)).length≠0:=fun e=>h3 (List.length_eq_zero_iff.1 e)
   simp only[List.length_append] at h1
   unfold most;omega
  have e0:=wr1 i (by omega)
  by_cases hc:i<s.length
  ·obtain⟨x,hcx⟩:∃x,s[i]=x:=⟨_,rfl⟩
   have hx:s[i]? = some x:=by rw[← hcx];exact List.getElem?_eq_getElem hc
   have hne:¬i=s.length:=by omega
   by_cases d:x=c
   ·have hs:s.drop f=(s.take i).drop f++c::s.drop (i+1):=by
     have h1:s=s.take i++c::s.drop (i+1):=by
      rw[← d,← hcx,← List.drop_eq_getElem_cons hc,List.take_append_drop]
     conv=>lhs;rw[h1]
     rw[List.drop_append_of_le_length (by simp;omega)]
    rw[hs,qh5 hn] at he
    subst d
    simp (maxSteps:=mS) [-getElem?_pos,hi,hne,hx,hf,e0,hlen]
    refine⟨a++[(s.take i).drop f],i+1,i+1,.inl ⟨by omega,by omega,?_,?_⟩,by omega,by simp,by simp,by simp⟩
    ·rw[List.drop_of_length_le (by simp;omega)];simp
    ·rw[List.append_assoc,← he];rfl
   ·simp (maxSteps:=mS) [-getElem?_pos,hi,hne,hx,d,e0]
    refine⟨a,f,i+1,.inl ⟨by omega,by omega,?_,he⟩,by omega,by simp⟩
    rw[List.take_succ_eq_append_getElem hc,hcx]
    intro h
    rcases List.mem_append.1 (List.mem_of_mem_drop h) with q|q
    ·rw[List.drop_append] at h
     rcases List.mem_append.1 h with h|h
     ·exact hn h
     ·have:=List.mem_of_mem_drop h;simp at this;exact d this.symm
    ·simp at q;exact d q.symm
  ·have hi':i=s.length:=by omega
   subst hi'
   rw[List.take_length] at hn
   rw[qds hn] at he
   simp (maxSteps:=mS) [hf,e0,hlen]
   exact⟨a++[s.drop f],_,_,.inr ⟨rfl,he⟩,by omega,by simp,rfl,by simp⟩
 ·subst hi he
  have hz:¬(s.length:Int)+1≤s.length:=by omega
  simp (maxSteps:=mS) [hz,results36]
theorem qem (s:List UInt8) (h1:s.all isD=true) (h2:plainB s=true) (h3:s.length≤9) (σ):ev 157 [.str s] σ=some (.tup [.int .i64 (valB s),.bool true],σ):=by
 obtain⟨c0,r0,hs0⟩:∃c r,s=c::r:=by cases s with
  | nil=>simp[plainB] at h2
  | cons c r=>exact⟨c,r,rfl⟩
 have hd0:isD c0=true:=by rw[hs0] at h1;simp at h1;exact h1.1
 have g0:s[0]? = some c0:=by rw[hs0];rfl
 have e1:¬c0=45:=by rintro rfl;revert hd0;decide
 have n2:s.isEmpty=false:=by rw[hs0];rfl
 have n3:¬19<s.length:=by omega
 have n4:1<s.length→¬c0=48:=by
  intro h e
  rw[hs0] at h h2
  simp[plainB,e] at h2
  rw[h2] at h;simp at h
 refine qk func157 ntmps157 ?_
 refine qgu (K1:=fun e st=>finE prog (H 157) σ Tryz.f157 (some (e,st))=some (.tup [.int .i64 (valB s),.bool true],σ)) ?_ (fun e st h=>h)
 by_cases n5:1<s.length
 all_goals
  first
   | simp (maxSteps:=mS) [-getElem?_pos,n2,n3,n5,g0,e1,n4 n5]
   | simp (maxSteps:=mS) [-getElem?_pos,n2,n3,n5,g0,e1]
  refine qf (I:=fun i:Nat=>⟨[(4,.bool false),(5,.str s),(6,.int .i64 (-(valB (s.take i):Int))),(7,.int .i64 i)],[],σ⟩) (Pr:=fun i=>i≤s.length) (μ:=fun i=>s.length-i) (a:=0) (by simp[valB]) (by simp) ?_
  intro i hi
  by_cases hc:i<s.length
  ·obtain⟨c,hcx⟩:∃c,s[i]=c:=⟨_,rfl⟩
   have hx:s[i]? = some c:=by rw[← hcx];exact List.getElem?_eq_getElem hc
   have hd:isD c=true:=by rw[← hcx];exact List.all_eq_true.1 h1 _ (List.getElem_mem hc)
   have hd2:48≤c.toNat∧c.toNat≤57:=of_decide_eq_true hd
   have z1:¬c.toNat<48:=by omega
   have z2:¬57<c.toNat:=by omega
   have w1:IntKind.u8.wrap ((c.toNat:Int)-48)=((c.toNat-48:Nat):Int):=by rw[qnd (by omega)];omega
   have hall:(s.take i).all isD=true:=by rw[List.all_eq_true];intro x hx;exact List.all_eq_true.1 h1 _ (List.mem_of_mem_take hx)
   have hv:=qgn _ hall
   have hv2:(10:Nat)^(s.take i).length≤10^9:=Nat.pow_le_pow_right (by omega) (by simp;omega)
   obtain⟨v,hvv⟩:∃v,valB (s.take i)=v:=⟨_,rfl⟩
   rw[hvv] at hv
   obtain⟨w,hw⟩:∃w:Int,-(v:Int)=w:=⟨_,rfl⟩
   obtain⟨d,hdd⟩:∃d,c.toNat-48=d:=⟨_,rfl⟩
   rw[hdd] at w1
   have w4:IntKind.i64.wrap (d:Int)=d:=qh (by omega)
   have w5:IntKind.i64.wrap (-9223372036854775808+(d:Int))=-9223372036854775808+(d:Int):=qh (by omega)
   have w6:=wr1 i (by omega)
   obtain⟨u,hu⟩:∃u,(-9223372036854775808+(d:Int)).tdiv 10=u:=⟨_,rfl⟩
   have hu2:-922337203685477581≤u∧u≤-922337203685477579:=by
    rw[← hu,show (-9223372036854775808+(d:Int))=-(9223372036854775808-(d:Int)) by omega,Int.neg_tdiv,Int.tdiv_eq_ediv_of_nonneg (by omega)];omega
   have w7:¬w<u:=by omega
   have wa:IntKind.i64.wrap u=u:=qh (by omega)
   have w8:IntKind.i64.wrap (10*w)=10*w:=qh (by omega)
   have w9:IntKind.i64.wrap (10*w-(d:Int))=10*w-(d:Int):=qh (by omega)
   have hn:valB (s.take (i+1))=v*10+d:=by rw[List.take_succ_eq_append_getElem hc,qeg,hvv,hcx,hdd]
   simp (maxSteps:=mS) [-getElem?_pos,hc,hx,hvv,hw,z1,z2,w1,w4,w5,w6,hu,wa,w7,w8,w9]
   exact⟨i+1,by omega,by omega,by rw[hn];simp;omega,by simp⟩
  ·have hi':i=s.length:=by omega
   subst hi'
   have hv:=qgn _ h1
   have hv2:(10:Nat)^s.length≤10^9:=Nat.pow_le_pow_right (by omega) (by omega)
   have w1:¬(-(valB s:Int))=-9223372036854775808:=by omega
   have w2:IntKind.i64.wrap (0 - -(valB s:Int))=(valB s:Int):=by rw[qh (by omega)];omega
   have w2':IntKind.i64.wrap (valB s:Int)=(valB s:Int):=qh (by omega)
   have w3:¬(valB s:Int)=9223372036854775808:=by omega
   simp (maxSteps:=mS) [hc,w1,w2,w2',w3,results157]
end Go.Proofs.Tryz.Ai
end
