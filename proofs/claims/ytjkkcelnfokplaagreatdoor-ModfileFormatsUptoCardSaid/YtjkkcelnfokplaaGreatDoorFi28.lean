/- Part 28 of a proof: Go functions are evaluated on abstract values; no conditions beyond those of each theorem. -/
import Derived.Test.YtjkkcelnfokplaaGreatDoorFi27
set_option linter.all false
set_option maxHeartbeats 16000000
set_option maxRecDepth 4000
section
namespace Go.Proofs.Tryz.Ai
open Go Go.AI Go.Proofs
def isBl (c:UInt8):Bool:=c==32||c==9
def mkL:List UInt8:=[40,41,91,93,44]
def isMk (c:UInt8):Bool:=decide (c∈mkL)
def isWd (c:UInt8):Bool:=decide (32<c.toNat)&&decide (c.toNat≤126)&&decide (c∉([40,41,91,93,44,34]:List UInt8))
def tkW (w:List UInt8):Tok:=if w=[61,62] then (62,[]) else (119,w)
def tokF:Nat→List UInt8→Option (List Tok)
 | 0,_=>none
 | _+1,[]=>some []
 | n+1,c::r=>if isBl c then tokF n r else if isMk c then (tokF n r).map ((c,[])::·) else if isWd c then (tokF n ((c::r).dropWhile isWd)).map (tkW ((c::r).takeWhile isWd)::·) else none
def tokB (s:List UInt8):Option (List Tok):=tokF (s.length+1) s
theorem qbm {p:UInt8→Bool}:∀l:List UInt8,(l.dropWhile p).length≤l.length
 | []=>by simp
 | a::r=>by
  rw[List.dropWhile_cons]
  split
  ·have:=qbm (p:=p) r;simp;omega
  ·simp
theorem tokF_fuel:∀(n m:Nat) (s:List UInt8),s.length<n→s.length<m→tokF n s=tokF m s
 | 0,_,s,h,_=>by omega
 | _,0,s,_,h=>by omega
 | n+1,m+1,[],_,_=>rfl
 | n+1,m+1,c::r,h,k=>by
  simp only[List.length_cons] at h k
  have h1:=tokF_fuel n m r (by omega) (by omega)
  have hd:isWd c=true→((c::r).dropWhile isWd).length≤r.length:=fun hw=>by
   rw[List.dropWhile_cons,if_pos hw];exact qbm r
  simp only[tokF]
  rw[h1]
  split
  ·rfl
  ·split
   ·rfl
   ·split
    ·rename_i hw
     have:=hd hw
     rw[tokF_fuel n m _ (by omega) (by omega)]
    ·rfl
theorem tokB_nil:tokB []=some []:=rfl
theorem tokB_bl {c:UInt8} {r:List UInt8} (h:isBl c=true):tokB (c::r)=tokB r:=by
 unfold tokB;rw[List.length_cons,tokF,if_pos h]
theorem tokB_mk {c:UInt8} {r:List UInt8} (h:isBl c=false) (h1:isMk c=true):tokB (c::r)=(tokB r).map ((c,[])::·):=by
 unfold tokB;rw[List.length_cons,tokF,h,h1];rfl
theorem tokB_wd {c:UInt8} {r:List UInt8} (h:isBl c=false) (h1:isMk c=false) (h2:isWd c=true):tokB (c::r)=(tokB ((c::r).dropWhile isWd)).map (tkW ((c::r).takeWhile isWd)::·):=by
 have hd:((c::r).dropWhile isWd).length≤r.length:=by rw[List.dropWhile_cons,if_pos h2];exact qbm r
 unfold tokB
 rw[List.length_cons,tokF,h,h1,h2,tokF_fuel (r.length+1) (((c::r).dropWhile isWd).length+1) ((c::r).dropWhile isWd) (by omega) (by omega)];rfl
theorem tokB_bad {c:UInt8} {r:List UInt8} (h:isBl c=false) (h1:isMk c=false) (h2:isWd c=false):tokB (c::r)=none:=by
 unfold tokB;rw[List.length_cons,tokF,h,h1,h2];rfl
theorem qrp {p:UInt8→Bool} {s:List UInt8} {i k:Nat} (hik:i≤k) (hk:k≤s.length) (h:∀j c,i≤j→j<k→s[j]? = some c→p c=true) (hx:k=s.length∨∃c,s[k]? = some c∧p c=false) :
  (s.drop i).takeWhile p=(s.take k).drop i∧(s.drop i).dropWhile p=s.drop k:=by
 have e:s.drop i=(s.take k).drop i++s.drop k:=by
  conv=>lhs;rw[← List.take_append_drop k s]
  rw[List.drop_append_of_le_length (by simp;omega)]
 have hall:∀c∈(s.take k).drop i,p c=true:=by
  intro c hc
  obtain⟨j,hj⟩:=List.mem_iff_getElem?.1 hc
  rw[List.getElem?_drop,List.getElem?_take] at hj
  split at hj
  ·exact h (i+j) c (by omega) (by assumption) hj
  ·cases hj
 have hstop:(s.drop k).takeWhile p=[]∧(s.drop k).dropWhile p=s.drop k:=by
  rcases hx with hx|⟨c,hc,hp⟩
  ·rw[hx,List.drop_length];exact⟨rfl,rfl⟩
  ·obtain⟨hlt,hce⟩:=List.getElem?_eq_some_iff.1 hc
   rw[List.drop_eq_getElem_cons hlt,hce,List.takeWhile_cons,List.dropWhile_cons,hp];exact⟨rfl,rfl⟩
 rw[e,List.takeWhile_append_of_pos hall,List.dropWhile_append_of_pos hall,hstop.1,hstop.2,List.append_nil]
 exact⟨rfl,rfl⟩
structure BoxK (σ S:List (List AV)) (b n:Nat) (l:List Tok):Prop where
 get:S[b]? = some (flat (l.map tkF))
 len:l.length=n
 take:S.take σ.length=σ
 le:σ.length≤b
theorem BoxK.lt {σ S:List (List AV)} {b n:Nat} {l:List Tok} (h:BoxK σ S b n l):b<S.length:=(List.getElem?_eq_some_iff.1 h.get).1
theorem BoxK.low {σ S:List (List AV)} {b n:Nat} {l:List Tok} (h:BoxK σ S b n l):lowS σ S:=fun k hk=>.inl (by
 have:=congrArg (fun l:List (List AV)=>l[k]?) h.take
 simp only[List.getElem?_take,if_pos hk] at this
 exact this)
theorem BoxK.old {σ S:List (List AV)} {b n:Nat} {l:List Tok} (h:BoxK σ S b n l) {k:Nat} {cs:List AV} (hk:σ[k]? = some cs):S[k]? = some cs:=by
 have hlt:=(List.getElem?_eq_some_iff.1 hk).1
 have:=congrArg (fun l:List (List AV)=>l[k]?) h.take
 simp only[List.getElem?_take,if_pos hlt] at this
 rw[this,hk]
theorem flat_snoc (l:List Tok) (t:Tok):flat ((l++[t]).map tkF)=flat (l.map tkF)++[.int .u8 (t.1.toNat:Int),.str t.2]:=by
 unfold flat;rw[List.map_append,List.flatMap_append];rfl
theorem flat_lenK (l:List Tok):(flat (l.map tkF)).length=l.length*2:=by
 induction l with
 | nil=>rfl
 | cons a l ih=>unfold flat at *;rw[List.map_cons,List.flatMap_cons,List.length_append,ih];simp[tkF,AV.cells];omega
theorem BoxK.new {σ S:List (List AV)} (hS:S.take σ.length=σ) (hle:σ.length≤S.length) (t:Tok):BoxK σ (S++[[.int .u8 (t.1.toNat:Int),.str t.2]]) S.length 1 [t] :=
 ⟨by simp;rfl,rfl,by rw[List.take_append_of_le_length hle];exact hS,hle⟩
theorem BoxK.app {σ S:List (List AV)} {b n:Nat} {l:List Tok} (h:BoxK σ S b n l) (t:Tok):BoxK σ (S.set b []++[flat (l.map tkF)++[.int .u8 (t.1.toNat:Int),.str t.2]]) S.length (n+1) (l++[t]):=by
 have h1:=h.lt
 have h2:=h.le
 refine⟨by rw[flat_snoc];simp,by simp[h.len],?_,by omega⟩
 rw[List.take_append_of_le_length (by simp;omega),List.take_set_of_le h.le];exact h.take
def tkSt (σ:List (List AV)) (v:AV) (S:List (List AV)) (l:List Tok):Prop:=(v=.sl (.ex 187 2) []∧S=σ∧l=[])∨∃b,v=.ms 187 2 b 0 l.length∧BoxK σ S b l.length l∧0<l.length
def tkI (s:List UInt8) (σ:List (List AV)) (v:AV) (S:List (List AV)) (i:Nat):Prop:=∃l,tkSt σ v S l∧i≤s.length∧l.length≤i∧tokB s=(tokB (s.drop i)).map (l++·)
theorem qrq {l:List Tok} {t:Tok} {o:Option (List Tok)}:(o.map (t::·)).map (l++·)=o.map ((l++[t])++·):=by cases o<;>simp
theorem qvc (l:List Tok):els2 true 2 2 (flat (l.map tkF)) 0 l.length=some (l.map tkF):=by
 have hrow:∀{D:List Tok} {i:Nat} {x:Tok},D[i]? = some x→((flat (D.map tkF)).drop (i*2)).take 2=[.int .u8 (x.1.toNat:Int),.str x.2]:=by
  intro D
  induction D with
  | nil=>intro i x h;simp at h
  | cons a D ih =>
   intro i x h
   have e:flat ((a::D).map tkF)=.int .u8 (a.1.toNat:Int)::.str a.2::flat (D.map tkF):=rfl
   rw[e]
   cases i with
   | zero=>simp at h;subst h;rfl
   | succ i =>
    simp at h
    have:=ih h
    rw[show (i+1)*2=i*2+1+1 by omega,List.drop_succ_cons,List.drop_succ_cons];exact this
 rw[qne,if_pos (by rw[flat_lenK];omega)]
 congr 1
 apply List.ext_getElem?
 intro i
 by_cases hi:i<l.length
 ·obtain⟨x,hx⟩:=getS hi
  have:=hrow hx
  rw[List.getElem?_map,List.getElem?_range hi,List.getElem?_map,hx]
  simp only[Option.map_some,Nat.zero_add,this];rfl
 ·rw[List.getElem?_eq_none (by simpa using Nat.le_of_not_lt hi),List.getElem?_eq_none (by simpa using Nat.le_of_not_lt hi)]
theorem tokens_ok (b0:Nat) (sh0:Option (TypeId×Nat)) (s:List UInt8) (hs:s.length≤2^30) (toks:List Tok) (hT:tokB s=some toks) (σ:List (List AV)) :
  ev 114 [.gp b0 0 sh0,.str s] σ=some (.sl (.ex 187 2) (toks.map tkF),σ):=by
 refine qk func114 ntmps114 ?_
 simp (maxSteps:=mS) []
 refine qf (I:=fun p:AV×List (List AV)×Nat=>⟨[(0,.gp b0 0 sh0),(1,.str s),(5,p.1),(6,.int .i64 p.2.2)],[],p.2.1⟩) (Pr:=fun p=>tkI s σ p.1 p.2.1 p.2.2) (μ:=fun p=>s.length-p.2.2) (a:=(.sl (.ex 187 2) [],σ,0)) (by simp) ⟨[],.inl ⟨rfl,rfl,rfl⟩,by simp,by simp,by simp⟩ ?_
 rintro⟨v,S,i⟩ ⟨l,hv,hi,hli,he⟩
 simp only at hv hi hli he ⊢
 by_cases hc:i<s.length
 ·skip
  have w1:=wr1 i (by omega)
  obtain⟨x,hx⟩:=getS hc
  have hdx:s.drop i=x::s.drop (i+1):=by obtain⟨h1,h2⟩:=List.getElem?_eq_some_iff.1 hx;rw[List.drop_eq_getElem_cons h1,h2]
  rw[hdx] at he
  have hB1:=fun σ=>qdb [40,41,91,93,44] x σ
  have hB2:=qdt x [40,41,91,93,44]
  have hlm:l.length+1≤most:=by unfold most;omega
  have h1m:1≤most:=by unfold most;omega
  cases hbl:isBl x with
  | true =>
   rw[tokB_bl hbl] at he
   have hbx:x=32∨x=9:=by simpa[isBl] using hbl
   rcases hbx with rfl|rfl
   all_goals
    simp (maxSteps:=mS) [-getElem?_pos,-Prod.exists,hc,hx,w1]
    exact⟨(v,S,i+1),⟨l,hv,by simp;omega,by simp;omega,he⟩,by simp;omega,by simp⟩
  | false =>
   have hb1:x≠32:=by rintro rfl;simp[isBl] at hbl
   have hb2:x≠9:=by rintro rfl;simp[isBl] at hbl
   cases hmk:isMk x with
   | true =>
    rw[tokB_mk hbl hmk,qrq] at he
    have hmm:x∈([40,41,91,93,44]:List UInt8):=by simpa[isMk,mkL] using hmk
    have hB3:=hB2.2 hmm
    obtain⟨X,hX⟩:∃X,ixI x [40,41,91,93,44]=X:=⟨_,rfl⟩
    rw[hX] at hB1 hB3
    rcases hv with ⟨rfl,rfl,rfl⟩|⟨b,rfl,hB,hpos⟩
    ·simp (maxSteps:=mS) [-getElem?_pos,-Prod.exists,hc,hx,w1,hb1,hb2,hB1,hB3,h1m]
     exact⟨(.ms 187 2 S.length 0 1,S++[[.int .u8 (x.toNat:Int),.str []]],i+1),⟨[(x,[])],.inr ⟨S.length,rfl,BoxK.new (by simp) (Nat.le_refl _) (x,[]),by simp⟩,by simp;omega,by simp,by simpa using he⟩,by simp;omega,by simp⟩
    ·have hg:=hB.get
     have hfl:=flat_lenK l
     simp (maxSteps:=mS) [-getElem?_pos,-Prod.exists,hc,hx,w1,hb1,hb2,hB1,hB3,hlm,hg,hfl,hpos]
     exact⟨(.ms 187 2 S.length 0 (l.length+1),S.set b []++[flat (l.map tkF)++[.int .u8 (x.toNat:Int),.str []]],i+1),⟨l++[(x,[])],.inr ⟨S.length,by simp,by simpa using hB.app (x,[]),by simp⟩,by simp;omega,by simp;omega,by simpa using he⟩,by simp;omega,by simp⟩
   | false =>
    have hmm:¬x∈([40,41,91,93,44]:List UInt8):=by simpa[isMk,mkL] using hmk
    have hB3:¬0≤ixI x [40,41,91,93,44]:=fun h=>hmm (hB2.1 h)
    obtain⟨X,hX⟩:∃X,ixI x [40,41,91,93,44]=X:=⟨_,rfl⟩
    rw[hX] at hB1 hB3
    cases hwd:isWd x with
    | false =>
     exfalso
     rw[tokB_bad hbl hmk hwd] at he
     rw[hT] at he;cases he
    | true =>
     simp (maxSteps:=mS) [-getElem?_pos,-Prod.exists,hc,hx,w1,hb1,hb2,hB1,hB3]
     refine qf (I:=fun k:Nat=>⟨[(0,.gp b0 0 sh0),(1,.str s),(5,v),(6,.int .i64 k),(8,.int .i64 i)],[],S⟩) (Pr:=fun k=>i≤k∧k≤s.length∧∀j c,i≤j→j<k→s[j]? = some c→isWd c=true) (μ:=fun k=>s.length-k) (a:=i) (by simp) ⟨Nat.le_refl _,by omega,fun j c h1 h2=>by omega⟩ ?_
     rintro k ⟨hik,hk,hrun⟩
     have w2:=wr1 k (by omega)
     have more:∀c,s[k]? = some c→isWd c=true→∀j c',i≤j→j<k+1→s[j]? = some c'→isWd c'=true:=by
      intro c h1 h2 j c' h3 h4 h5
      by_cases hjk:j=k
      ·subst hjk;rw[h1] at h5;injection h5 with h5;subst h5;exact h2
      ·exact hrun j c' h3 (by omega) h5
     have leave:k≠i→(k=s.length∨∃c,s[k]? = some c∧isWd c=false)→tokB s=(tokB (s.drop k)).map ((l++[tkW ((s.take k).drop i)])++·):=by
      intro h1 h2
      obtain⟨e1,e2⟩:=qrp hik hk hrun h2
      rw[he,tokB_wd hbl hmk hwd,qrq,← hdx,e1,e2]
     have hki:∀c,s[k]? = some c→isWd c=false→k≠i:=by
      rintro c h1 h2 rfl;rw[hx] at h1;injection h1 with h1;subst h1;rw[hwd] at h2;cases h2
     by_cases hkc:k<s.length
     ·obtain⟨y,hy⟩:=getS hkc
      have hY1:=fun σ=>qdb [40,41,91,93,44,34] y σ
      have hY2:=qdt y [40,41,91,93,44,34]
      obtain⟨Y,hYY⟩:∃Y,ixI y [40,41,91,93,44,34]=Y:=⟨_,rfl⟩
      rw[hYY] at hY1 hY2
      have hyn:y.toNat<256:=y.toNat_lt
      have hdef:isWd y=(decide (32<y.toNat)&&decide (y.toNat≤126)&&decide (y∉([40,41,91,93,44,34]:List UInt8))):=rfl
      cases hyw:isWd y with
      | true =>
       have hmo:=more y hy hyw
       rw[hyw] at hdef
       have hd3:(32<y.toNat∧y.toNat≤126)∧y∉([40,41,91,93,44,34]:List UInt8):=by simpa using hdef.symm
       obtain⟨⟨q1,q2⟩,q3⟩:=hd3
       have q4:Y<0:=by
        rcases Int.lt_or_le Y 0 with h|h
        ·exact h
        ·exact absurd (hY2.1 h) q3
       simp (maxSteps:=mS) [-getElem?_pos,-Prod.exists,hkc,hy,w2,q1,q2,hY1,q4]
       exact⟨k+1,⟨by omega,by omega,hmo⟩,by omega,by simp⟩
      | false =>
       have hlv:=leave (hki y hy hyw) (.inr ⟨y,hy,hyw⟩)
       have hne:=hki y hy hyw
       rw[hyw] at hdef
       have hd3:¬((32<y.toNat∧y.toNat≤126)∧y∉([40,41,91,93,44,34]:List UInt8)):=by simpa using hdef.symm
       by_cases q1:32<y.toNat
       ·by_cases q2:y.toNat≤126
        ·have q4:¬Y<0:=fun h=>by
          have:¬y∉([40,41,91,93,44,34]:List UInt8):=fun hn=>hd3 ⟨⟨q1,q2⟩,hn⟩
          have:=hY2.2 (Classical.not_not.1 this)
          omega
         obtain⟨W,hW⟩:∃W,(s.take k).drop i=W:=⟨_,rfl⟩
         rw[hW] at hlv
         have hne':¬((k:Int)=(i:Int)):=by omega
         have hik':i≤k:=hik
         have hz0:IntKind.i64.wrap 0=0:=by decide
         have hw3:∀n:Nat,n<2^40→IntKind.i64.wrap ((n:Int)+1-1)=n:=fun n hn=>by rw[show (n:Int)+1-1=n by omega];exact qh (by omega)
         by_cases harr:W=[61,62]
         ·have htk:tkW W=(62,[]):=by unfold tkW;rw[if_pos harr]
          rw[htk] at hlv
          subst harr
          rcases hv with ⟨rfl,rfl,rfl⟩|⟨b,rfl,hB,hpos⟩
          ·simp (maxSteps:=mS) [-getElem?_pos,-Prod.exists,hkc,hy,q1,q2,hY1,q4,hk,hne,hne',hik',hW,h1m,hz0,writeCells]
           repeat (rw[qo];rotate_left;(· (try unfold most);omega);simp (maxSteps:=mS) [-getElem?_pos,-Prod.exists,hkc,hy,q1,q2,hY1,q4,hk,hne,hne',hik',hW,h1m,hz0,writeCells])
           exact⟨(.ms 187 2 S.length 0 1,S++[[.int .u8 62,.str []]],k),⟨[(62,[])],.inr ⟨S.length,rfl,BoxK.new (by simp) (Nat.le_refl _) (62,[]),by simp⟩,by simp;omega,by simp;omega,by simpa using hlv⟩,by simp;omega,by simp⟩
          ·have hg:=hB.get
           have hfl:=flat_lenK l
           have hll:=hw3 l.length (by omega)
           have hgs:∀X:List AV,(S.set b []++[X])[S.length]? = some X:=fun X=>by simp
           have hlz:IntKind.i64.wrap (l.length:Int)=l.length:=qh (by omega)
           have htk1:∀a b:AV,(flat (l.map tkF)++[a,b]).take (l.length*2)=flat (l.map tkF):=fun a b=>by rw[← hfl];simp
           have htk2:∀a b:AV,(flat (l.map tkF)++[a,b]).drop (l.length*2+2)=[]:=fun a b=>List.drop_eq_nil_of_le (by simp[hfl])
           simp (maxSteps:=mS) [-getElem?_pos,-Prod.exists,hkc,hy,q1,q2,hY1,q4,hk,hne,hne',hik',hW,hlm,hg,hfl,hpos,hll,hlz,hgs,htk1,htk2,writeCells]
           repeat (rw[qo];rotate_left;(· (try unfold most);omega);simp (maxSteps:=mS) [-getElem?_pos,-Prod.exists,hkc,hy,q1,q2,hY1,q4,hk,hne,hne',hik',hW,hlm,hg,hfl,hpos,hll,hlz,hgs,htk1,htk2,writeCells])
           exact⟨(.ms 187 2 S.length 0 (l.length+1),S.set b []++[flat (l.map tkF)++[.int .u8 62,.str []]],k),⟨l++[(62,[])],.inr ⟨S.length,by simp,by simpa using hB.app (62,[]),by simp⟩,by simp;omega,by simp;omega,by simpa using hlv⟩,by simp;omega,by simp⟩
         ·have htk:tkW W=(119,W):=by unfold tkW;rw[if_neg harr]
          rw[htk] at hlv
          have harr':(W==[61,62])=false:=by simpa using harr
          rcases hv with ⟨rfl,rfl,rfl⟩|⟨b,rfl,hB,hpos⟩
          ·simp (maxSteps:=mS) [-getElem?_pos,-Prod.exists,hkc,hy,q1,q2,hY1,q4,hk,hne,hne',hik',hW,h1m,harr',harr]
           repeat (rw[qo];rotate_left;(· (try unfold most);omega);simp (maxSteps:=mS) [-getElem?_pos,-Prod.exists,hkc,hy,q1,q2,hY1,q4,hk,hne,hne',hik',hW,h1m,harr',harr])
           exact⟨(.ms 187 2 S.length 0 1,S++[[.int .u8 119,.str W]],k),⟨[(119,W)],.inr ⟨S.length,rfl,BoxK.new (by simp) (Nat.le_refl _) (119,W),by simp⟩,by simp;omega,by simp;omega,by simpa using hlv⟩,by simp;omega,by simp⟩
          ·have hg:=hB.get
           have hfl:=flat_lenK l
           simp (maxSteps:=mS) [-getElem?_pos,-Prod.exists,hkc,hy,q1,q2,hY1,q4,hk,hne,hne',hik',hW,hlm,hg,hfl,hpos,harr',harr]
           repeat (rw[qo];rotate_left;(· (try unfold most);omega);simp (maxSteps:=mS) [-getElem?_pos,-Prod.exists,hkc,hy,q1,q2,hY1,q4,hk,hne,hne',hik',hW,hlm,hg,hfl,hpos,harr',harr])
           exact⟨(.ms 187 2 S.length 0 (l.length+1),S.set b []++[flat (l.map tkF)++[.int .u8 119,.str W]],k),⟨l++[(119,W)],.inr ⟨S.length,by simp,by simpa using hB.app (119,W),by simp⟩,by simp;omega,by simp;omega,by simpa using hlv⟩,by simp;omega,by simp⟩
        ·obtain⟨W,hW⟩:∃W,(s.take k).drop i=W:=⟨_,rfl⟩
         rw[hW] at hlv
         have hne':¬((k:Int)=(i:Int)):=by omega
         have hik':i≤k:=hik
         have hz0:IntKind.i64.wrap 0=0:=by decide
         have hw3:∀n:Nat,n<2^40→IntKind.i64.wrap ((n:Int)+1-1)=n:=fun n hn=>by rw[show (n:Int)+1-1=n by omega];exact qh (by omega)
         by_cases harr:W=[61,62]
         ·have htk:tkW W=(62,[]):=by unfold tkW;rw[if_pos harr]
          rw[htk] at hlv
          subst harr
          rcases hv with ⟨rfl,rfl,rfl⟩|⟨b,rfl,hB,hpos⟩
          ·simp (maxSteps:=mS) [-getElem?_pos,-Prod.exists,hkc,hy,q1,q2,hk,hne,hne',hik',hW,h1m,hz0,writeCells]
           repeat (rw[qo];rotate_left;(· (try unfold most);omega);simp (maxSteps:=mS) [-getElem?_pos,-Prod.exists,hkc,hy,q1,q2,hk,hne,hne',hik',hW,h1m,hz0,writeCells])
           exact⟨(.ms 187 2 S.length 0 1,S++[[.int .u8 62,.str []]],k),⟨[(62,[])],.inr ⟨S.length,rfl,BoxK.new (by simp) (Nat.le_refl _) (62,[]),by simp⟩,by simp;omega,by simp;omega,by simpa using hlv⟩,by simp;omega,by simp⟩
          ·have hg:=hB.get
           have hfl:=flat_lenK l
           have hll:=hw3 l.length (by omega)
           have hgs:∀X:List AV,(S.set b []++[X])[S.length]? = some X:=fun X=>by simp
           have hlz:IntKind.i64.wrap (l.length:Int)=l.length:=qh (by omega)
           have htk1:∀a b:AV,(flat (l.map tkF)++[a,b]).take (l.length*2)=flat (l.map tkF):=fun a b=>by rw[← hfl];simp
           have htk2:∀a b:AV,(flat (l.map tkF)++[a,b]).drop (l.length*2+2)=[]:=fun a b=>List.drop_eq_nil_of_le (by simp[hfl])
           simp (maxSteps:=mS) [-getElem?_pos,-Prod.exists,hkc,hy,q1,q2,hk,hne,hne',hik',hW,hlm,hg,hfl,hpos,hll,hlz,hgs,htk1,htk2,writeCells]
           repeat (rw[qo];rotate_left;(· (try unfold most);omega);simp (maxSteps:=mS) [-getElem?_pos,-Prod.exists,hkc,hy,q1,q2,hk,hne,hne',hik',hW,hlm,hg,hfl,hpos,hll,hlz,hgs,htk1,htk2,writeCells])
           exact⟨(.ms 187 2 S.length 0 (l.length+1),S.set b []++[flat (l.map tkF)++[.int .u8 62,.str []]],k),⟨l++[(62,[])],.inr ⟨S.length,by simp,by simpa using hB.app (62,[]),by simp⟩,by simp;omega,by simp;omega,by simpa using hlv⟩,by simp;omega,by simp⟩
         ·have htk:tkW W=(119,W):=by unfold tkW;rw[if_neg harr]
          rw[htk] at hlv
          have harr':(W==[61,62])=false:=by simpa using harr
          rcases hv with ⟨rfl,rfl,rfl⟩|⟨b,rfl,hB,hpos⟩
          ·simp (maxSteps:=mS) [-getElem?_pos,-Prod.exists,hkc,hy,q1,q2,hk,hne,hne',hik',hW,h1m,harr',harr]
           repeat (rw[qo];rotate_left;(· (try unfold most);omega);simp (maxSteps:=mS) [-getElem?_pos,-Prod.exists,hkc,hy,q1,q2,hk,hne,hne',hik',hW,h1m,harr',harr])
           exact⟨(.ms 187 2 S.length 0 1,S++[[.int .u8 119,.str W]],k),⟨[(119,W)],.inr ⟨S.length,rfl,BoxK.new (by simp) (Nat.le_refl _) (119,W),by simp⟩,by simp;omega,by simp;omega,by simpa using hlv⟩,by simp;omega,by simp⟩
          ·have hg:=hB.get
           have hfl:=flat_lenK l
           simp (maxSteps:=mS) [-getElem?_pos,-Prod.exists,hkc,hy,q1,q2,hk,hne,hne',hik',hW,hlm,hg,hfl,hpos,harr',harr]
           repeat (rw[qo];rotate_left;(· (try unfold most);omega);simp (maxSteps:=mS) [-getElem?_pos,-Prod.exists,hkc,hy,q1,q2,hk,hne,hne',hik',hW,hlm,hg,hfl,hpos,harr',harr])
           exact⟨(.ms 187 2 S.length 0 (l.length+1),S.set b []++[flat (l.map tkF)++[.int .u8 119,.str W]],k),⟨l++[(119,W)],.inr ⟨S.length,by simp,by simpa using hB.app (119,W),by simp⟩,by simp;omega,by simp;omega,by simpa using hlv⟩,by simp;omega,by simp⟩
       ·obtain⟨W,hW⟩:∃W,(s.take k).drop i=W:=⟨_,rfl⟩
        rw[hW] at hlv
        have hne':¬((k:Int)=(i:Int)):=by omega
        have hik':i≤k:=hik
        have hz0:IntKind.i64.wrap 0=0:=by decide
        have hw3:∀n:Nat,n<2^40→IntKind.i64.wrap ((n:Int)+1-1)=n:=fun n hn=>by rw[show (n:Int)+1-1=n by omega];exact qh (by omega)
        by_cases harr:W=[61,62]
        ·have htk:tkW W=(62,[]):=by unfold tkW;rw[if_pos harr]
         rw[htk] at hlv
         subst harr
         rcases hv with ⟨rfl,rfl,rfl⟩|⟨b,rfl,hB,hpos⟩
         ·simp (maxSteps:=mS) [-getElem?_pos,-Prod.exists,hkc,hy,q1,hk,hne,hne',hik',hW,h1m,hz0,writeCells]
          repeat (rw[qo];rotate_left;(· (try unfold most);omega);simp (maxSteps:=mS) [-getElem?_pos,-Prod.exists,hkc,hy,q1,hk,hne,hne',hik',hW,h1m,hz0,writeCells])
          exact⟨(.ms 187 2 S.length 0 1,S++[[.int .u8 62,.str []]],k),⟨[(62,[])],.inr ⟨S.length,rfl,BoxK.new (by simp) (Nat.le_refl _) (62,[]),by simp⟩,by simp;omega,by simp;omega,by simpa using hlv⟩,by simp;omega,by simp⟩
         ·have hg:=hB.get
          have hfl:=flat_lenK l
          have hll:=hw3 l.length (by omega)
          have hgs:∀X:List AV,(S.set b []++[X])[S.length]? = some X:=fun X=>by simp
          have hlz:IntKind.i64.wrap (l.length:Int)=l.length:=qh (by omega)
          have htk1:∀a b:AV,(flat (l.map tkF)++[a,b]).take (l.length*2)=flat (l.map tkF):=fun a b=>by rw[← hfl];simp
          have htk2:∀a b:AV,(flat (l.map tkF)++[a,b]).drop (l.length*2+2)=[]:=fun a b=>List.drop_eq_nil_of_le (by simp[hfl])
          simp (maxSteps:=mS) [-getElem?_pos,-Prod.exists,hkc,hy,q1,hk,hne,hne',hik',hW,hlm,hg,hfl,hpos,hll,hlz,hgs,htk1,htk2,writeCells]
          repeat (rw[qo];rotate_left;(· (try unfold most);omega);simp (maxSteps:=mS) [-getElem?_pos,-Prod.exists,hkc,hy,q1,hk,hne,hne',hik',hW,hlm,hg,hfl,hpos,hll,hlz,hgs,htk1,htk2,writeCells])
          exact⟨(.ms 187 2 S.length 0 (l.length+1),S.set b []++[flat (l.map tkF)++[.int .u8 62,.str []]],k),⟨l++[(62,[])],.inr ⟨S.length,by simp,by simpa using hB.app (62,[]),by simp⟩,by simp;omega,by simp;omega,by simpa using hlv⟩,by simp;omega,by simp⟩
        ·have htk:tkW W=(119,W):=by unfold tkW;rw[if_neg harr]
         rw[htk] at hlv
         have harr':(W==[61,62])=false:=by simpa using harr
         rcases hv with ⟨rfl,rfl,rfl⟩|⟨b,rfl,hB,hpos⟩
         ·simp (maxSteps:=mS) [-getElem?_pos,-Prod.exists,hkc,hy,q1,hk,hne,hne',hik',hW,h1m,harr',harr]
          repeat (rw[qo];rotate_left;(· (try unfold most);omega);simp (maxSteps:=mS) [-getElem?_pos,-Prod.exists,hkc,hy,q1,hk,hne,hne',hik',hW,h1m,harr',harr])
          exact⟨(.ms 187 2 S.length 0 1,S++[[.int .u8 119,.str W]],k),⟨[(119,W)],.inr ⟨S.length,rfl,BoxK.new (by simp) (Nat.le_refl _) (119,W),by simp⟩,by simp;omega,by simp;omega,by simpa using hlv⟩,by simp;omega,by simp⟩
         ·have hg:=hB.get
          have hfl:=flat_lenK l
          simp (maxSteps:=mS) [-getElem?_pos,-Prod.exists,hkc,hy,q1,hk,hne,hne',hik',hW,hlm,hg,hfl,hpos,harr',harr]
          repeat (rw[qo];rotate_left;(· (try unfold most);omega);simp (maxSteps:=mS) [-getElem?_pos,-Prod.exists,hkc,hy,q1,hk,hne,hne',hik',hW,hlm,hg,hfl,hpos,harr',harr])
          exact⟨(.ms 187 2 S.length 0 (l.length+1),S.set b []++[flat (l.map tkF)++[.int .u8 119,.str W]],k),⟨l++[(119,W)],.inr ⟨S.length,by simp,by simpa using hB.app (119,W),by simp⟩,by simp;omega,by simp;omega,by simpa using hlv⟩,by simp;omega,by simp⟩
     ·have hkl:k=s.length:=by omega
      have hne:k≠i:=by omega
      have hlv:=leave hne (.inl hkl)
      obtain⟨W,hW⟩:∃W,(s.take k).drop i=W:=⟨_,rfl⟩
      rw[hW] at hlv
      have hne':¬((k:Int)=(i:Int)):=by omega
      have hik':i≤k:=hik
      have hz0:IntKind.i64.wrap 0=0:=by decide
      have hw3:∀n:Nat,n<2^40→IntKind.i64.wrap ((n:Int)+1-1)=n:=fun n hn=>by rw[show (n:Int)+1-1=n by omega];exact qh (by omega)
      by_cases harr:W=[61,62]
      ·have htk:tkW W=(62,[]):=by unfold tkW;rw[if_pos harr]
       rw[htk] at hlv
       subst harr
       rcases hv with ⟨rfl,rfl,rfl⟩|⟨b,rfl,hB,hpos⟩
       ·simp (maxSteps:=mS) [-getElem?_pos,-Prod.exists,hkc,hk,hne,hne',hik',hW,h1m,hz0,writeCells]
        repeat (rw[qo];rotate_left;(· (try unfold most);omega);simp (maxSteps:=mS) [-getElem?_pos,-Prod.exists,hkc,hk,hne,hne',hik',hW,h1m,hz0,writeCells])
        exact⟨(.ms 187 2 S.length 0 1,S++[[.int .u8 62,.str []]],k),⟨[(62,[])],.inr ⟨S.length,rfl,BoxK.new (by simp) (Nat.le_refl _) (62,[]),by simp⟩,by simp;omega,by simp;omega,by simpa using hlv⟩,by simp;omega,by simp⟩
       ·have hg:=hB.get
        have hfl:=flat_lenK l
        have hll:=hw3 l.length (by omega)
        have hgs:∀X:List AV,(S.set b []++[X])[S.length]? = some X:=fun X=>by simp
        have hlz:IntKind.i64.wrap (l.length:Int)=l.length:=qh (by omega)
        have htk1:∀a b:AV,(flat (l.map tkF)++[a,b]).take (l.length*2)=flat (l.map tkF):=fun a b=>by rw[← hfl];simp
        have htk2:∀a b:AV,(flat (l.map tkF)++[a,b]).drop (l.length*2+2)=[]:=fun a b=>List.drop_eq_nil_of_le (by simp[hfl])
        simp (maxSteps:=mS) [-getElem?_pos,-Prod.exists,hkc,hk,hne,hne',hik',hW,hlm,hg,hfl,hpos,hll,hlz,hgs,htk1,htk2,writeCells]
        repeat (rw[qo];rotate_left;(· (try unfold most);omega);simp (maxSteps:=mS) [-getElem?_pos,-Prod.exists,hkc,hk,hne,hne',hik',hW,hlm,hg,hfl,hpos,hll,hlz,hgs,htk1,htk2,writeCells])
        exact⟨(.ms 187 2 S.length 0 (l.length+1),S.set b []++[flat (l.map tkF)++[.int .u8 62,.str []]],k),⟨l++[(62,[])],.inr ⟨S.length,by simp,by simpa using hB.app (62,[]),by simp⟩,by simp;omega,by simp;omega,by simpa using hlv⟩,by simp;omega,by simp⟩
      ·have htk:tkW W=(119,W):=by unfold tkW;rw[if_neg harr]
       rw[htk] at hlv
       have harr':(W==[61,62])=false:=by simpa using harr
       rcases hv with ⟨rfl,rfl,rfl⟩|⟨b,rfl,hB,hpos⟩
       ·simp (maxSteps:=mS) [-getElem?_pos,-Prod.exists,hkc,hk,hne,hne',hik',hW,h1m,harr',harr]
        repeat (rw[qo];rotate_left;(· (try unfold most);omega);simp (maxSteps:=mS) [-getElem?_pos,-Prod.exists,hkc,hk,hne,hne',hik',hW,h1m,harr',harr])
        exact⟨(.ms 187 2 S.length 0 1,S++[[.int .u8 119,.str W]],k),⟨[(119,W)],.inr ⟨S.length,rfl,BoxK.new (by simp) (Nat.le_refl _) (119,W),by simp⟩,by simp;omega,by simp;omega,by simpa using hlv⟩,by simp;omega,by simp⟩
       ·have hg:=hB.get
        have hfl:=flat_lenK l
        simp (maxSteps:=mS) [-getElem?_pos,-Prod.exists,hkc,hk,hne,hne',hik',hW,hlm,hg,hfl,hpos,harr',harr]
        repeat (rw[qo];rotate_left;(· (try unfold most);omega);simp (maxSteps:=mS) [-getElem?_pos,-Prod.exists,hkc,hk,hne,hne',hik',hW,hlm,hg,hfl,hpos,harr',harr])
        exact⟨(.ms 187 2 S.length 0 (l.length+1),S.set b []++[flat (l.map tkF)++[.int .u8 119,.str W]],k),⟨l++[(119,W)],.inr ⟨S.length,by simp,by simpa using hB.app (119,W),by simp⟩,by simp;omega,by simp;omega,by simpa using hlv⟩,by simp;omega,by simp⟩
 ·have hi':i=s.length:=by omega
  subst hi'
  rw[List.drop_length,tokB_nil] at he
  rw[hT] at he
  simp only[Option.map_some,List.append_nil,Option.some.injEq] at he
  subst he
  rcases hv with ⟨rfl,rfl,rfl⟩|⟨b,rfl,hB,hpos⟩
  ·simp (maxSteps:=mS) [results114]
  ·have hg:=hB.get
   have hlow:=hB.low
   have htk:=hB.take
   have hE:els2 true 2 2 (flat (toks.map tkF)) 0 toks.length=some (toks.map tkF):=qvc toks
   have hle:=hB.le
   have hts:(S.set b []).take σ.length=σ:=by rw[List.take_set_of_le hB.le];exact hB.take
   have hlw2:lowS σ (S.set b []):=fun k hk=>.inl (by
    have:=congrArg (fun l:List (List AV)=>l[k]?) hts
    simp only[List.getElem?_take,if_pos hk] at this
    exact this)
   simp (maxSteps:=mS) [-getElem?_pos,hg,hE,hle,hpos,hts,hlw2,results114]
end Go.Proofs.Tryz.Ai
end
