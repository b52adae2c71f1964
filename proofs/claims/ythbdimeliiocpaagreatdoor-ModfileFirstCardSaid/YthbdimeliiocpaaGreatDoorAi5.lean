/- Part 5 of a proof: a Go function is evaluated on abstract values (texts D7 .. D25); no conditions beyond those of each theorem. -/
import Derived.Test.YthbdimeliiocpaaGreatDoorAi4
import Derived.Recover
set_option linter.all false
set_option linter.unusedVariables false
set_option linter.unusedSimpArgs false
set_option linter.unnecessarySimpa false
section
namespace Go.Proofs.Tryz.Ai
open Go Go.AI Go.Proofs
set_option maxHeartbeats 8000000
set_option maxRecDepth 4000
set_option linter.unusedVariables false
def isBl (c:UInt8):Bool:=c==32||c==9
def mkL:List UInt8:=[40,41,91,93,44]
def isMk (c:UInt8):Bool:=decide (c∈mkL)
def isWd (c:UInt8):Bool:=decide (32<c.toNat)&&decide (c.toNat≤126)&&decide (c∉([40,41,91,93,44,34]:List UInt8))
def tkW (w:List UInt8):Tok:=if w=[61,62] then (62,[]) else (119,w)
def tokF:Nat→List UInt8→Option (List Tok)
 | 0,_=>none
 | _+1,[]=>some []
 | n+1,c::r=>if isBl c then tokF n r else if isMk c then (tokF n r).map ((c,[])::·) else if isWd c then (tokF n ((c::r).dropWhile isWd)).map (tkW ((c::r).takeWhile isWd)::·) else none
def tokB (s:List UInt8):Option (List Tok):=tokF (s.length+1) s
theorem qbm {p:UInt8→Bool}:∀l:List UInt8,(l.dropWhile p).length≤l.length
 | []=>by simp
 | a::r=>by
  rw[List.dropWhile_cons]
  split
  ·have:=qbm (p:=p) r;simp;omega
  ·simp
theorem tokF_fuel:∀(n m:Nat) (s:List UInt8),s.length<n→s.length<m→tokF n s=tokF m s
 | 0,_,s,h,_=>by omega
 | _,0,s,_,h=>by omega
 | n+1,m+1,[],_,_=>rfl
 | n+1,m+1,c::r,h,k=>by
  simp only[List.length_cons] at h k
  have h1:=tokF_fuel n m r (by omega) (by omega)
  have hd:isWd c=true→((c::r).dropWhile isWd).length≤r.length:=fun hw=>by
   rw[List.dropWhile_cons,if_pos hw];exact qbm r
  simp only[tokF]
  rw[h1]
  split
  ·rfl
  ·split
   ·rfl
   ·split
    ·rename_i hw
     have:=hd hw
     rw[tokF_fuel n m _ (by omega) (by omega)]
    ·rfl
theorem tokB_nil:tokB []=some []:=rfl
theorem tokB_bl {c:UInt8} {r:List UInt8} (h:isBl c=true):tokB (c::r)=tokB r:=by
 unfold tokB;rw[List.length_cons,tokF,if_pos h]
theorem tokB_mk {c:UInt8} {r:List UInt8} (h:isBl c=false) (h1:isMk c=true):tokB (c::r)=(tokB r).map ((c,[])::·):=by
 unfold tokB;rw[List.length_cons,tokF,h,h1];rfl
theorem tokB_wd {c:UInt8} {r:List UInt8} (h:isBl c=false) (h1:isMk c=false) (h2:isWd c=true):tokB (c::r)=(tokB ((c::r).dropWhile isWd)).map (tkW ((c::r).takeWhile isWd)::·):=by
 have hd:((c::r).dropWhile isWd).length≤r.length:=by rw[List.dropWhile_cons,if_pos h2];exact qbm r
 unfold tokB
 rw[List.length_cons,tokF,h,h1,h2,tokF_fuel (r.length+1) (((c::r).dropWhile isWd).length+1) ((c::r).dropWhile isWd) (by omega) (by omega)];rfl
theorem tokB_bad {c:UInt8} {r:List UInt8} (h:isBl c=false) (h1:isMk c=false) (h2:isWd c=false):tokB (c::r)=none:=by
 unfold tokB;rw[List.length_cons,tokF,h,h1,h2];rfl
theorem qjl {p:UInt8→Bool} {s:List UInt8} {i k:Nat} (hik:i≤k) (hk:k≤s.length) (h:∀j c,i≤j→j<k→s[j]? = some c→p c=true) (hx:k=s.length∨∃c,s[k]? = some c∧p c=false) :
  (s.drop i).takeWhile p=(s.take k).drop i∧(s.drop i).dropWhile p=s.drop k:=by
 have e:s.drop i=(s.take k).drop i++s.drop k:=by
  conv=>lhs;rw[← List.take_append_drop k s]
  rw[List.drop_append_of_le_length (by simp;omega)]
 have hall:∀c∈(s.take k).drop i,p c=true:=by
  intro c hc
  obtain⟨j,hj⟩:=List.mem_iff_getElem?.1 hc
  rw[List.getElem?_drop,List.getElem?_take] at hj
  split at hj
  ·exact h (i+j) c (by omega) (by assumption) hj
  ·cases hj
 have hstop:(s.drop k).takeWhile p=[]∧(s.drop k).dropWhile p=s.drop k:=by
  rcases hx with hx|⟨c,hc,hp⟩
  ·rw[hx,List.drop_length];exact⟨rfl,rfl⟩
  ·obtain⟨hlt,hce⟩:=List.getElem?_eq_some_iff.1 hc
   rw[List.drop_eq_getElem_cons hlt,hce,List.takeWhile_cons,List.dropWhile_cons,hp];exact⟨rfl,rfl⟩
 rw[e,List.takeWhile_append_of_pos hall,List.dropWhile_append_of_pos hall,hstop.1,hstop.2,List.append_nil]
 exact⟨rfl,rfl⟩
structure BoxK (σ S:List (List AV)) (b n:Nat) (l:List Tok):Prop where
 get:S[b]? = some (flat (l.map tkF))
 len:l.length=n
 take:S.take σ.length=σ
 le:σ.length≤b
theorem BoxK.lt {σ S:List (List AV)} {b n:Nat} {l:List Tok} (h:BoxK σ S b n l):b<S.length:=(List.getElem?_eq_some_iff.1 h.get).1
theorem BoxK.low {σ S:List (List AV)} {b n:Nat} {l:List Tok} (h:BoxK σ S b n l):lowS σ S:=fun k hk=>.inl (by
 have:=congrArg (fun l:List (List AV)=>l[k]?) h.take
 simp only[List.getElem?_take,if_pos hk] at this
 exact this)
theorem BoxK.old {σ S:List (List AV)} {b n:Nat} {l:List Tok} (h:BoxK σ S b n l) {k:Nat} {cs:List AV} (hk:σ[k]? = some cs):S[k]? = some cs:=by
 have hlt:=(List.getElem?_eq_some_iff.1 hk).1
 have:=congrArg (fun l:List (List AV)=>l[k]?) h.take
 simp only[List.getElem?_take,if_pos hlt] at this
 rw[this,hk]
theorem flat_snoc (l:List Tok) (t:Tok):flat ((l++[t]).map tkF)=flat (l.map tkF)++[.int .u8 (t.1.toNat:Int),.str t.2]:=by
 unfold flat;rw[List.map_append,List.flatMap_append];rfl
theorem flat_lenK (l:List Tok):(flat (l.map tkF)).length=l.length*2:=by
 induction l with
 | nil=>rfl
 | cons a l ih=>unfold flat at *;rw[List.map_cons,List.flatMap_cons,List.length_append,ih];simp[tkF,AV.cells];omega
theorem BoxK.new {σ S:List (List AV)} (hS:S.take σ.length=σ) (hle:σ.length≤S.length) (t:Tok):BoxK σ (S++[[.int .u8 (t.1.toNat:Int),.str t.2]]) S.length 1 [t] :=
 ⟨by simp;rfl,rfl,by rw[List.take_append_of_le_length hle];exact hS,hle⟩
theorem BoxK.app {σ S:List (List AV)} {b n:Nat} {l:List Tok} (h:BoxK σ S b n l) (t:Tok):BoxK σ (S.set b []++[flat (l.map tkF)++[.int .u8 (t.1.toNat:Int),.str t.2]]) S.length (n+1) (l++[t]):=by
 have h1:=h.lt
 have h2:=h.le
 refine⟨by rw[flat_snoc];simp,by simp[h.len],?_,by omega⟩
 rw[List.take_append_of_le_length (by simp;omega),List.take_set_of_le h.le];exact h.take
def tkSt (σ:List (List AV)) (v:AV) (S:List (List AV)) (l:List Tok):Prop:=(v=.sl (.ex 190 2) []∧S=σ∧l=[])∨∃b,v=.ms 190 2 b 0 l.length∧BoxK σ S b l.length l∧0<l.length
def tkI (s:List UInt8) (σ:List (List AV)) (v:AV) (S:List (List AV)) (i:Nat):Prop:=∃l,tkSt σ v S l∧i≤s.length∧l.length≤i∧tokB s=(tokB (s.drop i)).map (l++·)
theorem qic {l:List Tok} {t:Tok} {o:Option (List Tok)}:(o.map (t::·)).map (l++·)=o.map ((l++[t])++·):=by cases o<;>simp
theorem qsz (l:List Tok):els2 true 2 2 (flat (l.map tkF)) 0 l.length=some (l.map tkF):=by
 have hrow:∀{D:List Tok} {i:Nat} {x:Tok},D[i]? = some x→((flat (D.map tkF)).drop (i*2)).take 2=[.int .u8 (x.1.toNat:Int),.str x.2]:=by
  intro D
  induction D with
  | nil=>intro i x h;simp at h
  | cons a D ih =>
   intro i x h
   have e:flat ((a::D).map tkF)=.int .u8 (a.1.toNat:Int)::.str a.2::flat (D.map tkF):=rfl
   rw[e]
   cases i with
   | zero=>simp at h;subst h;rfl
   | succ i =>
    simp at h
    have:=ih h
    rw[show (i+1)*2=i*2+1+1 by omega,List.drop_succ_cons,List.drop_succ_cons];exact this
 rw[qle,if_pos (by rw[flat_lenK];omega)]
 congr 1
 apply List.ext_getElem?
 intro i
 by_cases hi:i<l.length
 ·obtain⟨x,hx⟩:∃x,l[i]? = some x:=⟨_,List.getElem?_eq_getElem hi⟩
  have:=hrow hx
  rw[List.getElem?_map,List.getElem?_range hi,List.getElem?_map,hx]
  simp only[Option.map_some,Nat.zero_add,this];rfl
 ·rw[List.getElem?_eq_none (by simpa using Nat.le_of_not_lt hi),List.getElem?_eq_none (by simpa using Nat.le_of_not_lt hi)]
theorem tokens_ok (b0:Nat) (sh0:Option (TypeId×Nat)) (s:List UInt8) (hs:s.length≤2^30) (toks:List Tok) (hT:tokB s=some toks) (σ:List (List AV)) :
  ev 119 [.gp b0 0 sh0,.str s] σ=some (.sl (.ex 190 2) (toks.map tkF),σ):=by
 refine qd rfl Tryz.func119 rfl (by simp[Tryz.ntmps119]) (by kernel_rfl) (by kernel_rfl) ?_
 simp (maxSteps:=4000000) []
 refine qn (I:=fun p:AV×List (List AV)×Nat=>⟨[(0,.gp b0 0 sh0),(1,.str s),(5,p.1),(6,.int .i64 p.2.2)],[],p.2.1⟩) (Pr:=fun p=>tkI s σ p.1 p.2.1 p.2.2) (μ:=fun p=>s.length-p.2.2) (a:=(.sl (.ex 190 2) [],σ,0)) (by simp) ⟨[],.inl ⟨rfl,rfl,rfl⟩,by simp,by simp,by simp⟩ ?_
 rintro⟨v,S,i⟩ ⟨l,hv,hi,hli,he⟩
 simp only at hv hi hli he ⊢
 by_cases hc:i<s.length
 ·skip
  have w1:IntKind.i64.wrap ((i:Int)+1)=(i:Int)+1:=qk (by omega)
  obtain⟨x,hx⟩:∃x,s[i]? = some x:=⟨_,List.getElem?_eq_getElem hc⟩
  have hdx:s.drop i=x::s.drop (i+1):=by obtain⟨h1,h2⟩:=List.getElem?_eq_some_iff.1 hx;rw[List.drop_eq_getElem_cons h1,h2]
  rw[hdx] at he
  have hB1:=fun σ=>qa4 [40,41,91,93,44] x σ
  have hB2:=qba x [40,41,91,93,44]
  have hlm:l.length+1≤most:=by unfold most;omega
  have h1m:1≤most:=by unfold most;omega
  cases hbl:isBl x with
  | true =>
   rw[tokB_bl hbl] at he
   have hbx:x=32∨x=9:=by simpa[isBl] using hbl
   rcases hbx with rfl|rfl
   all_goals
    simp (maxSteps:=4000000) [-getElem?_pos,-Prod.exists,hc,hx,w1]
    exact⟨(v,S,i+1),⟨l,hv,by simp;omega,by simp;omega,he⟩,by simp;omega,by simp⟩
  | false =>
   have hb1:x≠32:=by rintro rfl;simp[isBl] at hbl
   have hb2:x≠9:=by rintro rfl;simp[isBl] at hbl
   cases hmk:isMk x with
   | true =>
    rw[tokB_mk hbl hmk,qic] at he
    have hmm:x∈([40,41,91,93,44]:List UInt8):=by simpa[isMk,mkL] using hmk
    have hB3:=hB2.2 hmm
    obtain⟨X,hX⟩:∃X,ixI x [40,41,91,93,44]=X:=⟨_,rfl⟩
    rw[hX] at hB1 hB3
    rcases hv with ⟨rfl,rfl,rfl⟩|⟨b,rfl,hB,hpos⟩
    ·simp (maxSteps:=4000000) [-getElem?_pos,-Prod.exists,hc,hx,w1,hb1,hb2,hB1,hB3,h1m]
     exact⟨(.ms 190 2 S.length 0 1,S++[[.int .u8 (x.toNat:Int),.str []]],i+1),⟨[(x,[])],.inr ⟨S.length,rfl,BoxK.new (by simp) (Nat.le_refl _) (x,[]),by simp⟩,by simp;omega,by simp,by simpa using he⟩,by simp;omega,by simp⟩
    ·have hg:=hB.get
     have hfl:=flat_lenK l
     simp (maxSteps:=4000000) [-getElem?_pos,-Prod.exists,hc,hx,w1,hb1,hb2,hB1,hB3,hlm,hg,hfl,hpos]
     exact⟨(.ms 190 2 S.length 0 (l.length+1),S.set b []++[flat (l.map tkF)++[.int .u8 (x.toNat:Int),.str []]],i+1),⟨l++[(x,[])],.inr ⟨S.length,by simp,by simpa using hB.app (x,[]),by simp⟩,by simp;omega,by simp;omega,by simpa using he⟩,by simp;omega,by simp⟩
   | false =>
    have hmm:¬x∈([40,41,91,93,44]:List UInt8):=by simpa[isMk,mkL] using hmk
    have hB3:¬0≤ixI x [40,41,91,93,44]:=fun h=>hmm (hB2.1 h)
    obtain⟨X,hX⟩:∃X,ixI x [40,41,91,93,44]=X:=⟨_,rfl⟩
    rw[hX] at hB1 hB3
    cases hwd:isWd x with
    | false =>
     exfalso
     rw[tokB_bad hbl hmk hwd] at he
     rw[hT] at he;cases he
    | true =>
     simp (maxSteps:=4000000) [-getElem?_pos,-Prod.exists,hc,hx,w1,hb1,hb2,hB1,hB3]
     refine qn (I:=fun k:Nat=>⟨[(0,.gp b0 0 sh0),(1,.str s),(5,v),(6,.int .i64 k),(8,.int .i64 i)],[],S⟩) (Pr:=fun k=>i≤k∧k≤s.length∧∀j c,i≤j→j<k→s[j]? = some c→isWd c=true) (μ:=fun k=>s.length-k) (a:=i) (by simp) ⟨Nat.le_refl _,by omega,fun j c h1 h2=>by omega⟩ ?_
     rintro k ⟨hik,hk,hrun⟩
     have w2:IntKind.i64.wrap ((k:Int)+1)=(k:Int)+1:=qk (by omega)
     have more:∀c,s[k]? = some c→isWd c=true→∀j c',i≤j→j<k+1→s[j]? = some c'→isWd c'=true:=by
      intro c h1 h2 j c' h3 h4 h5
      by_cases hjk:j=k
      ·subst hjk;rw[h1] at h5;injection h5 with h5;subst h5;exact h2
      ·exact hrun j c' h3 (by omega) h5
     have leave:k≠i→(k=s.length∨∃c,s[k]? = some c∧isWd c=false)→tokB s=(tokB (s.drop k)).map ((l++[tkW ((s.take k).drop i)])++·):=by
      intro h1 h2
      obtain⟨e1,e2⟩:=qjl hik hk hrun h2
      rw[he,tokB_wd hbl hmk hwd,qic,← hdx,e1,e2]
     have hki:∀c,s[k]? = some c→isWd c=false→k≠i:=by
      rintro c h1 h2 rfl;rw[hx] at h1;injection h1 with h1;subst h1;rw[hwd] at h2;cases h2
     by_cases hkc:k<s.length
     ·obtain⟨y,hy⟩:∃y,s[k]? = some y:=⟨_,List.getElem?_eq_getElem hkc⟩
      have hY1:=fun σ=>qa4 [40,41,91,93,44,34] y σ
      have hY2:=qba y [40,41,91,93,44,34]
      obtain⟨Y,hYY⟩:∃Y,ixI y [40,41,91,93,44,34]=Y:=⟨_,rfl⟩
      rw[hYY] at hY1 hY2
      have hyn:y.toNat<256:=y.toNat_lt
      have hdef:isWd y=(decide (32<y.toNat)&&decide (y.toNat≤126)&&decide (y∉([40,41,91,93,44,34]:List UInt8))):=rfl
      cases hyw:isWd y with
      | true =>
       have hmo:=more y hy hyw
       rw[hyw] at hdef
       have hd3:(32<y.toNat∧y.toNat≤126)∧y∉([40,41,91,93,44,34]:List UInt8):=by simpa using hdef.symm
       obtain⟨⟨q1,q2⟩,q3⟩:=hd3
       have q4:Y<0:=by
        rcases Int.lt_or_le Y 0 with h|h
        ·exact h
        ·exact absurd (hY2.1 h) q3
       simp (maxSteps:=4000000) [-getElem?_pos,-Prod.exists,hkc,hy,w2,q1,q2,hY1,q4]
       exact⟨k+1,⟨by omega,by omega,hmo⟩,by omega,by simp⟩
      | false =>
       have hlv:=leave (hki y hy hyw) (.inr ⟨y,hy,hyw⟩)
       have hne:=hki y hy hyw
       rw[hyw] at hdef
       have hd3:¬((32<y.toNat∧y.toNat≤126)∧y∉([40,41,91,93,44,34]:List UInt8)):=by simpa using hdef.symm
       by_cases q1:32<y.toNat
       ·by_cases q2:y.toNat≤126
        ·have q4:¬Y<0:=fun h=>by
          have:¬y∉([40,41,91,93,44,34]:List UInt8):=fun hn=>hd3 ⟨⟨q1,q2⟩,hn⟩
          have:=hY2.2 (Classical.not_not.1 this)
          omega
         obtain⟨W,hW⟩:∃W,(s.take k).drop i=W:=⟨_,rfl⟩
         rw[hW] at hlv
         have hne':¬((k:Int)=(i:Int)):=by omega
         have hik':i≤k:=hik
         have hz0:IntKind.i64.wrap 0=0:=by decide
         have hw3:∀n:Nat,n<2^40→IntKind.i64.wrap ((n:Int)+1-1)=n:=fun n hn=>by rw[show (n:Int)+1-1=n by omega];exact qk (by omega)
         by_cases harr:W=[61,62]
         ·have htk:tkW W=(62,[]):=by unfold tkW;rw[if_pos harr]
          rw[htk] at hlv
          subst harr
          rcases hv with ⟨rfl,rfl,rfl⟩|⟨b,rfl,hB,hpos⟩
          ·simp (maxSteps:=4000000) [-getElem?_pos,-Prod.exists,hkc,hy,q1,q2,hY1,q4,hk,hne,hne',hik',hW,h1m,hz0,writeCells]
           repeat (rw[ql];rotate_left;(· (try unfold most);omega);simp (maxSteps:=4000000) [-getElem?_pos,-Prod.exists,hkc,hy,q1,q2,hY1,q4,hk,hne,hne',hik',hW,h1m,hz0,writeCells])
           exact⟨(.ms 190 2 S.length 0 1,S++[[.int .u8 62,.str []]],k),⟨[(62,[])],.inr ⟨S.length,rfl,BoxK.new (by simp) (Nat.le_refl _) (62,[]),by simp⟩,by simp;omega,by simp;omega,by simpa using hlv⟩,by simp;omega,by simp⟩
          ·have hg:=hB.get
           have hfl:=flat_lenK l
           have hll:=hw3 l.length (by omega)
           have hgs:∀X:List AV,(S.set b []++[X])[S.length]? = some X:=fun X=>by simp
           have hlz:IntKind.i64.wrap (l.length:Int)=l.length:=qk (by omega)
           have htk1:∀a b:AV,(flat (l.map tkF)++[a,b]).take (l.length*2)=flat (l.map tkF):=fun a b=>by rw[← hfl];simp
           have htk2:∀a b:AV,(flat (l.map tkF)++[a,b]).drop (l.length*2+2)=[]:=fun a b=>List.drop_eq_nil_of_le (by simp[hfl])
           simp (maxSteps:=4000000) [-getElem?_pos,-Prod.exists,hkc,hy,q1,q2,hY1,q4,hk,hne,hne',hik',hW,hlm,hg,hfl,hpos,hll,hlz,hgs,htk1,htk2,writeCells]
           repeat (rw[ql];rotate_left;(· (try unfold most);omega);simp (maxSteps:=4000000) [-getElem?_pos,-Prod.exists,hkc,hy,q1,q2,hY1,q4,hk,hne,hne',hik',hW,hlm,hg,hfl,hpos,hll,hlz,hgs,htk1,htk2,writeCells])
           exact⟨(.ms 190 2 S.length 0 (l.length+1),S.set b []++[flat (l.map tkF)++[.int .u8 62,.str []]],k),⟨l++[(62,[])],.inr ⟨S.length,by simp,by simpa using hB.app (62,[]),by simp⟩,by simp;omega,by simp;omega,by simpa using hlv⟩,by simp;omega,by simp⟩
         ·have htk:tkW W=(119,W):=by unfold tkW;rw[if_neg harr]
          rw[htk] at hlv
          have harr':(W==[61,62])=false:=by simpa using harr
          rcases hv with ⟨rfl,rfl,rfl⟩|⟨b,rfl,hB,hpos⟩
          ·simp (maxSteps:=4000000) [-getElem?_pos,-Prod.exists,hkc,hy,q1,q2,hY1,q4,hk,hne,hne',hik',hW,h1m,harr',harr]
           repeat (rw[ql];rotate_left;(· (try unfold most);omega);simp (maxSteps:=4000000) [-getElem?_pos,-Prod.exists,hkc,hy,q1,q2,hY1,q4,hk,hne,hne',hik',hW,h1m,harr',harr])
           exact⟨(.ms 190 2 S.length 0 1,S++[[.int .u8 119,.str W]],k),⟨[(119,W)],.inr ⟨S.length,rfl,BoxK.new (by simp) (Nat.le_refl _) (119,W),by simp⟩,by simp;omega,by simp;omega,by simpa using hlv⟩,by simp;omega,by simp⟩
          ·have hg:=hB.get
           have hfl:=flat_lenK l
           simp (maxSteps:=4000000) [-getElem?_pos,-Prod.exists,hkc,hy,q1,q2,hY1,q4,hk,hne,hne',hik',hW,hlm,hg,hfl,hpos,harr',harr]
           repeat (rw[ql];rotate_left;(· (try unfold most);omega);simp (maxSteps:=4000000) [-getElem?_pos,-Prod.exists,hkc,hy,q1,q2,hY1,q4,hk,hne,hne',hik',hW,hlm,hg,hfl,hpos,harr',harr])
           exact⟨(.ms 190 2 S.length 0 (l.length+1),S.set b []++[flat (l.map tkF)++[.int .u8 119,.str W]],k),⟨l++[(119,W)],.inr ⟨S.length,by simp,by simpa using hB.app (119,W),by simp⟩,by simp;omega,by simp;omega,by simpa using hlv⟩,by simp;omega,by simp⟩
        ·obtain⟨W,hW⟩:∃W,(s.take k).drop i=W:=⟨_,rfl⟩
         rw[hW] at hlv
         have hne':¬((k:Int)=(i:Int)):=by omega
         have hik':i≤k:=hik
         have hz0:IntKind.i64.wrap 0=0:=by decide
         have hw3:∀n:Nat,n<2^40→IntKind.i64.wrap ((n:Int)+1-1)=n:=fun n hn=>by rw[show (n:Int)+1-1=n by omega];exact qk (by omega)
         by_cases harr:W=[61,62]
         ·have htk:tkW W=(62,[]):=by unfold tkW;rw[if_pos harr]
          rw[htk] at hlv
          subst harr
          rcases hv with ⟨rfl,rfl,rfl⟩|⟨b,rfl,hB,hpos⟩
          ·simp (maxSteps:=4000000) [-getElem?_pos,-Prod.exists,hkc,hy,q1,q2,hk,hne,hne',hik',hW,h1m,hz0,writeCells]
           repeat (rw[ql];rotate_left;(· (try unfold most);omega);simp (maxSteps:=4000000) [-getElem?_pos,-Prod.exists,hkc,hy,q1,q2,hk,hne,hne',hik',hW,h1m,hz0,writeCells])
           exact⟨(.ms 190 2 S.length 0 1,S++[[.int .u8 62,.str []]],k),⟨[(62,[])],.inr ⟨S.length,rfl,BoxK.new (by simp) (Nat.le_refl _) (62,[]),by simp⟩,by simp;omega,by simp;omega,by simpa using hlv⟩,by simp;omega,by simp⟩
          ·have hg:=hB.get
           have hfl:=flat_lenK l
           have hll:=hw3 l.length (by omega)
           have hgs:∀X:List AV,(S.set b []++[X])[S.length]? = some X:=fun X=>by simp
           have hlz:IntKind.i64.wrap (l.length:Int)=l.length:=qk (by omega)
           have htk1:∀a b:AV,(flat (l.map tkF)++[a,b]).take (l.length*2)=flat (l.map tkF):=fun a b=>by rw[← hfl];simp
           have htk2:∀a b:AV,(flat (l.map tkF)++[a,b]).drop (l.length*2+2)=[]:=fun a b=>List.drop_eq_nil_of_le (by simp[hfl])
           simp (maxSteps:=4000000) [-getElem?_pos,-Prod.exists,hkc,hy,q1,q2,hk,hne,hne',hik',hW,hlm,hg,hfl,hpos,hll,hlz,hgs,htk1,htk2,writeCells]
           repeat (rw[ql];rotate_left;(· (try unfold most);omega);simp (maxSteps:=4000000) [-getElem?_pos,-Prod.exists,hkc,hy,q1,q2,hk,hne,hne',hik',hW,hlm,hg,hfl,hpos,hll,hlz,hgs,htk1,htk2,writeCells])
           exact⟨(.ms 190 2 S.length 0 (l.length+1),S.set b []++[flat (l.map tkF)++[.int .u8 62,.str []]],k),⟨l++[(62,[])],.inr ⟨S.length,by simp,by simpa using hB.app (62,[]),by simp⟩,by simp;omega,by simp;omega,by simpa using hlv⟩,by simp;omega,by simp⟩
         ·have htk:tkW W=(119,W):=by unfold tkW;rw[if_neg harr]
          rw[htk] at hlv
          have harr':(W==[61,62])=false:=by simpa using harr
          rcases hv with ⟨rfl,rfl,rfl⟩|⟨b,rfl,hB,hpos⟩
          ·simp (maxSteps:=4000000) [-getElem?_pos,-Prod.exists,hkc,hy,q1,q2,hk,hne,hne',hik',hW,h1m,harr',harr]
           repeat (rw[ql];rotate_left;(· (try unfold most);omega);simp (maxSteps:=4000000) [-getElem?_pos,-Prod.exists,hkc,hy,q1,q2,hk,hne,hne',hik',hW,h1m,harr',harr])
           exact⟨(.ms 190 2 S.length 0 1,S++[[.int .u8 119,.str W]],k),⟨[(119,W)],.inr ⟨S.length,rfl,BoxK.new (by simp) (Nat.le_refl _) (119,W),by simp⟩,by simp;omega,by simp;omega,by simpa using hlv⟩,by simp;omega,by simp⟩
          ·have hg:=hB.get
           have hfl:=flat_lenK l
           simp (maxSteps:=4000000) [-getElem?_pos,-Prod.exists,hkc,hy,q1,q2,hk,hne,hne',hik',hW,hlm,hg,hfl,hpos,harr',harr]
           repeat (rw[ql];rotate_left;(· (try unfold most);omega);simp (maxSteps:=4000000) [-getElem?_pos,-Prod.exists,hkc,hy,q1,q2,hk,hne,hne',hik',hW,hlm,hg,hfl,hpos,harr',harr])
           exact⟨(.ms 190 2 S.length 0 (l.length+1),S.set b []++[flat (l.map tkF)++[.int .u8 119,.str W]],k),⟨l++[(119,W)],.inr ⟨S.length,by simp,by simpa using hB.app (119,W),by simp⟩,by simp;omega,by simp;omega,by simpa using hlv⟩,by simp;omega,by simp⟩
       ·obtain⟨W,hW⟩:∃W,(s.take k).drop i=W:=⟨_,rfl⟩
        rw[hW] at hlv
        have hne':¬((k:Int)=(i:Int)):=by omega
        have hik':i≤k:=hik
        have hz0:IntKind.i64.wrap 0=0:=by decide
        have hw3:∀n:Nat,n<2^40→IntKind.i64.wrap ((n:Int)+1-1)=n:=fun n hn=>by rw[show (n:Int)+1-1=n by omega];exact qk (by omega)
        by_cases harr:W=[61,62]
        ·have htk:tkW W=(62,[]):=by unfold tkW;rw[if_pos harr]
         rw[htk] at hlv
         subst harr
         rcases hv with ⟨rfl,rfl,rfl⟩|⟨b,rfl,hB,hpos⟩
         ·simp (maxSteps:=4000000) [-getElem?_pos,-Prod.exists,hkc,hy,q1,hk,hne,hne',hik',hW,h1m,hz0,writeCells]
          repeat (rw[ql];rotate_left;(· (try unfold most);omega);simp (maxSteps:=4000000) [-getElem?_pos,-Prod.exists,hkc,hy,q1,hk,hne,hne',hik',hW,h1m,hz0,writeCells])
          exact⟨(.ms 190 2 S.length 0 1,S++[[.int .u8 62,.str []]],k),⟨[(62,[])],.inr ⟨S.length,rfl,BoxK.new (by simp) (Nat.le_refl _) (62,[]),by simp⟩,by simp;omega,by simp;omega,by simpa using hlv⟩,by simp;omega,by simp⟩
         ·have hg:=hB.get
          have hfl:=flat_lenK l
          have hll:=hw3 l.length (by omega)
          have hgs:∀X:List AV,(S.set b []++[X])[S.length]? = some X:=fun X=>by simp
          have hlz:IntKind.i64.wrap (l.length:Int)=l.length:=qk (by omega)
          have htk1:∀a b:AV,(flat (l.map tkF)++[a,b]).take (l.length*2)=flat (l.map tkF):=fun a b=>by rw[← hfl];simp
          have htk2:∀a b:AV,(flat (l.map tkF)++[a,b]).drop (l.length*2+2)=[]:=fun a b=>List.drop_eq_nil_of_le (by simp[hfl])
          simp (maxSteps:=4000000) [-getElem?_pos,-Prod.exists,hkc,hy,q1,hk,hne,hne',hik',hW,hlm,hg,hfl,hpos,hll,hlz,hgs,htk1,htk2,writeCells]
          repeat (rw[ql];rotate_left;(· (try unfold most);omega);simp (maxSteps:=4000000) [-getElem?_pos,-Prod.exists,hkc,hy,q1,hk,hne,hne',hik',hW,hlm,hg,hfl,hpos,hll,hlz,hgs,htk1,htk2,writeCells])
          exact⟨(.ms 190 2 S.length 0 (l.length+1),S.set b []++[flat (l.map tkF)++[.int .u8 62,.str []]],k),⟨l++[(62,[])],.inr ⟨S.length,by simp,by simpa using hB.app (62,[]),by simp⟩,by simp;omega,by simp;omega,by simpa using hlv⟩,by simp;omega,by simp⟩
        ·have htk:tkW W=(119,W):=by unfold tkW;rw[if_neg harr]
         rw[htk] at hlv
         have harr':(W==[61,62])=false:=by simpa using harr
         rcases hv with ⟨rfl,rfl,rfl⟩|⟨b,rfl,hB,hpos⟩
         ·simp (maxSteps:=4000000) [-getElem?_pos,-Prod.exists,hkc,hy,q1,hk,hne,hne',hik',hW,h1m,harr',harr]
          repeat (rw[ql];rotate_left;(· (try unfold most);omega);simp (maxSteps:=4000000) [-getElem?_pos,-Prod.exists,hkc,hy,q1,hk,hne,hne',hik',hW,h1m,harr',harr])
          exact⟨(.ms 190 2 S.length 0 1,S++[[.int .u8 119,.str W]],k),⟨[(119,W)],.inr ⟨S.length,rfl,BoxK.new (by simp) (Nat.le_refl _) (119,W),by simp⟩,by simp;omega,by simp;omega,by simpa using hlv⟩,by simp;omega,by simp⟩
         ·have hg:=hB.get
          have hfl:=flat_lenK l
          simp (maxSteps:=4000000) [-getElem?_pos,-Prod.exists,hkc,hy,q1,hk,hne,hne',hik',hW,hlm,hg,hfl,hpos,harr',harr]
          repeat (rw[ql];rotate_left;(· (try unfold most);omega);simp (maxSteps:=4000000) [-getElem?_pos,-Prod.exists,hkc,hy,q1,hk,hne,hne',hik',hW,hlm,hg,hfl,hpos,harr',harr])
          exact⟨(.ms 190 2 S.length 0 (l.length+1),S.set b []++[flat (l.map tkF)++[.int .u8 119,.str W]],k),⟨l++[(119,W)],.inr ⟨S.length,by simp,by simpa using hB.app (119,W),by simp⟩,by simp;omega,by simp;omega,by simpa using hlv⟩,by simp;omega,by simp⟩
     ·have hkl:k=s.length:=by omega
      have hne:k≠i:=by omega
      have hlv:=leave hne (.inl hkl)
      obtain⟨W,hW⟩:∃W,(s.take k).drop i=W:=⟨_,rfl⟩
      rw[hW] at hlv
      have hne':¬((k:Int)=(i:Int)):=by omega
      have hik':i≤k:=hik
      have hz0:IntKind.i64.wrap 0=0:=by decide
      have hw3:∀n:Nat,n<2^40→IntKind.i64.wrap ((n:Int)+1-1)=n:=fun n hn=>by rw[show (n:Int)+1-1=n by omega];exact qk (by omega)
      by_cases harr:W=[61,62]
      ·have htk:tkW W=(62,[]):=by unfold tkW;rw[if_pos harr]
       rw[htk] at hlv
       subst harr
       rcases hv with ⟨rfl,rfl,rfl⟩|⟨b,rfl,hB,hpos⟩
       ·simp (maxSteps:=4000000) [-getElem?_pos,-Prod.exists,hkc,hk,hne,hne',hik',hW,h1m,hz0,writeCells]
        repeat (rw[ql];rotate_left;(· (try unfold most);omega);simp (maxSteps:=4000000) [-getElem?_pos,-Prod.exists,hkc,hk,hne,hne',hik',hW,h1m,hz0,writeCells])
        exact⟨(.ms 190 2 S.length 0 1,S++[[.int .u8 62,.str []]],k),⟨[(62,[])],.inr ⟨S.length,rfl,BoxK.new (by simp) (Nat.le_refl _) (62,[]),by simp⟩,by simp;omega,by simp;omega,by simpa using hlv⟩,by simp;omega,by simp⟩
       ·have hg:=hB.get
        have hfl:=flat_lenK l
        have hll:=hw3 l.length (by omega)
        have hgs:∀X:List AV,(S.set b []++[X])[S.length]? = some X:=fun X=>by simp
        have hlz:IntKind.i64.wrap (l.length:Int)=l.length:=qk (by omega)
        have htk1:∀a b:AV,(flat (l.map tkF)++[a,b]).take (l.length*2)=flat (l.map tkF):=fun a b=>by rw[← hfl];simp
        have htk2:∀a b:AV,(flat (l.map tkF)++[a,b]).drop (l.length*2+2)=[]:=fun a b=>List.drop_eq_nil_of_le (by simp[hfl])
        simp (maxSteps:=4000000) [-getElem?_pos,-Prod.exists,hkc,hk,hne,hne',hik',hW,hlm,hg,hfl,hpos,hll,hlz,hgs,htk1,htk2,writeCells]
        repeat (rw[ql];rotate_left;(· (try unfold most);omega);simp (maxSteps:=4000000) [-getElem?_pos,-Prod.exists,hkc,hk,hne,hne',hik',hW,hlm,hg,hfl,hpos,hll,hlz,hgs,htk1,htk2,writeCells])
        exact⟨(.ms 190 2 S.length 0 (l.length+1),S.set b []++[flat (l.map tkF)++[.int .u8 62,.str []]],k),⟨l++[(62,[])],.inr ⟨S.length,by simp,by simpa using hB.app (62,[]),by simp⟩,by simp;omega,by simp;omega,by simpa using hlv⟩,by simp;omega,by simp⟩
      ·have htk:tkW W=(119,W):=by unfold tkW;rw[if_neg harr]
       rw[htk] at hlv
       have harr':(W==[61,62])=false:=by simpa using harr
       rcases hv with ⟨rfl,rfl,rfl⟩|⟨b,rfl,hB,hpos⟩
       ·simp (maxSteps:=4000000) [-getElem?_pos,-Prod.exists,hkc,hk,hne,hne',hik',hW,h1m,harr',harr]
        repeat (rw[ql];rotate_left;(· (try unfold most);omega);simp (maxSteps:=4000000) [-getElem?_pos,-Prod.exists,hkc,hk,hne,hne',hik',hW,h1m,harr',harr])
        exact⟨(.ms 190 2 S.length 0 1,S++[[.int .u8 119,.str W]],k),⟨[(119,W)],.inr ⟨S.length,rfl,BoxK.new (by simp) (Nat.le_refl _) (119,W),by simp⟩,by simp;omega,by simp;omega,by simpa using hlv⟩,by simp;omega,by simp⟩
       ·have hg:=hB.get
        have hfl:=flat_lenK l
        simp (maxSteps:=4000000) [-getElem?_pos,-Prod.exists,hkc,hk,hne,hne',hik',hW,hlm,hg,hfl,hpos,harr',harr]
        repeat (rw[ql];rotate_left;(· (try unfold most);omega);simp (maxSteps:=4000000) [-getElem?_pos,-Prod.exists,hkc,hk,hne,hne',hik',hW,hlm,hg,hfl,hpos,harr',harr])
        exact⟨(.ms 190 2 S.length 0 (l.length+1),S.set b []++[flat (l.map tkF)++[.int .u8 119,.str W]],k),⟨l++[(119,W)],.inr ⟨S.length,by simp,by simpa using hB.app (119,W),by simp⟩,by simp;omega,by simp;omega,by simpa using hlv⟩,by simp;omega,by simp⟩
 ·have hi':i=s.length:=by omega
  subst hi'
  rw[List.drop_length,tokB_nil] at he
  rw[hT] at he
  simp only[Option.map_some,List.append_nil,Option.some.injEq] at he
  subst he
  rcases hv with ⟨rfl,rfl,rfl⟩|⟨b,rfl,hB,hpos⟩
  ·simp (maxSteps:=4000000) [Tryz.results119]
  ·have hg:=hB.get
   have hlow:=hB.low
   have htk:=hB.take
   have hE:els2 true 2 2 (flat (toks.map tkF)) 0 toks.length=some (toks.map tkF):=qsz toks
   have hle:=hB.le
   have hts:(S.set b []).take σ.length=σ:=by rw[List.take_set_of_le hB.le];exact hB.take
   have hlw2:lowS σ (S.set b []):=fun k hk=>.inl (by
    have:=congrArg (fun l:List (List AV)=>l[k]?) hts
    simp only[List.getElem?_take,if_pos hk] at this
    exact this)
   simp (maxSteps:=4000000) [-getElem?_pos,hg,hE,hle,hpos,hts,hlw2,Tryz.results119]
end Go.Proofs.Tryz.Ai
end
section
namespace Go.Proofs.Tryz.Ai
open Go Go.AI Go.Proofs
set_option maxHeartbeats 8000000
set_option maxRecDepth 4000
set_option linter.unusedVariables false
def rqC (x y:Rq):Int:=bytesC x.1 y.1
theorem TP.rqC:TP rqC:=TO.bytes.tp.comap (fun x:Rq=>x.1)
def rpC (x y:Rp):Int:=modC x.1 y.1
theorem TP.rpC:TP rpC:=TO.modC.tp.comap (fun x:Rp=>x.1)
def rtC (x y:Rt):Int:=orI (cmpB x.1 y.1) (cmpB x.2 y.2)
theorem TO.rtC:TO rtC:=TO.cmp.prod TO.cmp
theorem orL2 (a b:Int):orL [a,b]=orI a b:=by
 simp only[orL,List.foldr,orI]
 split
 ·split
  ·symm;assumption
  ·rfl
 ·rfl
def qQ (x:Rq):Prop:=x.1.length≤2^29∧x.2.1.length≤2^29
def qP (x:Rp):Prop:=qdi x.1∧qdi x.2
theorem qpl (a b:Rq) (σ):ev 58 [rqF a,rqF b] σ=some (.int .i64 (rqC a b),σ):=by
 have h1:=qca a.1 b.1
 obtain⟨a1,a2,a3⟩:=a
 obtain⟨b1,b2,b3⟩:=b
 simp only[rqFx] at *
 refine qd rfl Tryz.func58 rfl (by simp[Tryz.ntmps58]) (by kernel_rfl) (by kernel_rfl) ?_
 simp (maxSteps:=4000000) [h1,rqC,Tryz.results58]
theorem qpm (a b:Rp) (ha:qP a) (hb:qP b) (σ):ev 61 [rpF a,rpF b] σ=some (.int .i64 (rpC a b),σ):=by
 have h1:=qca a.1.1 b.1.1
 have h2:=qfy a.1.2 b.1.2 (by have:=ha.1.2;omega) (by have:=hb.1.2;omega)
 have h3:=qd2 [bytesC a.1.1 b.1.1,cmpB a.1.2 b.1.2] (by simp)
 have h4:rpC a b=orL [bytesC a.1.1 b.1.1,cmpB a.1.2 b.1.2]:=by rw[orL2];rfl
 rw[h4]
 obtain⟨⟨a1,a2⟩,a3,a4⟩:=a
 obtain⟨⟨b1,b2⟩,b3,b4⟩:=b
 simp only[rpFx,List.map_cons,List.map_nil] at h1 h2 h3 ⊢
 obtain⟨c1,hc1⟩:∃c,bytesC a1 b1=c:=⟨_,rfl⟩
 obtain⟨c2,hc2⟩:∃c,cmpB a2 b2=c:=⟨_,rfl⟩
 rw[hc1] at h1 h3 ⊢
 rw[hc2] at h2 h3 ⊢
 refine qd rfl Tryz.func61 rfl (by simp[Tryz.ntmps61]) (by kernel_rfl) (by kernel_rfl) ?_
 simp (maxSteps:=4000000) [-qb]
 refine qg [] _ (k:=?_)
 repeat (first|refine qe _ (hs:=by simp (maxSteps:=4000000) [h1,h2,h3];exact rfl) (k:=?_)|refine qf _ (k:=?_))
 refine qc ?_
 simp (maxSteps:=4000000) [Tryz.results61]
theorem qpn (a b:Rt) (ha:qdi a) (hb:qdi b) (σ):ev 65 [rtF a,rtF b] σ=some (.int .i64 (rtC a b),σ):=by
 have h1:=qfy a.1 b.1 (by have:=ha.1;omega) (by have:=hb.1;omega)
 have h2:=qfy a.2 b.2 (by have:=ha.2;omega) (by have:=hb.2;omega)
 have h3:=qd2 [cmpB a.1 b.1,cmpB a.2 b.2] (by simp)
 have h4:rtC a b=orL [cmpB a.1 b.1,cmpB a.2 b.2]:=by rw[orL2];rfl
 rw[h4]
 obtain⟨a1,a2⟩:=a
 obtain⟨b1,b2⟩:=b
 simp only[rtFx,List.map_cons,List.map_nil] at h1 h2 h3 ⊢
 obtain⟨c1,hc1⟩:∃c,cmpB a1 b1=c:=⟨_,rfl⟩
 obtain⟨c2,hc2⟩:∃c,cmpB a2 b2=c:=⟨_,rfl⟩
 rw[hc1] at h1 h3 ⊢
 rw[hc2] at h2 h3 ⊢
 refine qd rfl Tryz.func65 rfl (by simp[Tryz.ntmps65]) (by kernel_rfl) (by kernel_rfl) ?_
 simp (maxSteps:=4000000) [-qb]
 refine qg [] _ (k:=?_)
 repeat (first|refine qe _ (hs:=by simp (maxSteps:=4000000) [h1,h2,h3];exact rfl) (k:=?_)|refine qf _ (k:=?_))
 refine qc ?_
 simp (maxSteps:=4000000) [Tryz.results65]
theorem qv7:CmpOkQ 58 rqC qQ:=⟨TP.rqC,by decide,fun x y _ _ σ=>qpl x y σ⟩
theorem qv8:CmpOkP 61 rpC qP:=⟨TP.rpC,by decide,fun x y hx hy σ=>qpm x y hx hy σ⟩
theorem qv9:CmpOkT 65 rtC qdi:=⟨TO.rtC.tp,by decide,fun x y hx hy σ=>qpn x y hx hy σ⟩
theorem qpo (l:List (Rq)):rowE esQ l=flat (l.map rqF):=qeb (fun _=>rfl) l
theorem qs0 (l:List (Rq)):els2 true 3 3 (flat (l.map rqF)) 0 l.length=some (l.map rqF):=qe0 (E:=esQ) (fun _=>rfl) (fun _=>rfl) (fun _=>rfl) (by decide) l
theorem qid {α:Type} {S:List α} {b:Nat} {x:α} (h:S[b]? = some x):S.set b x=S:=by
 apply List.ext_getElem?
 intro j
 rw[List.getElem?_set]
 split
 ·rename_i e;subst e
  rw[if_pos (List.getElem?_eq_some_iff.1 h).1,h]
 ·rfl
theorem qkq (S:List (List AV)):ev (100000+53) [.sl .sh []] S=some (.sl (.ex 49 3) [],S):=by
 refine qd (f:=100000+53) rfl Tryz.func53 rfl (by simp[Tryz.ntmps53]) (by kernel_rfl) (by kernel_rfl) ?_
 simp (maxSteps:=4000000) [Tryz.results53]
theorem qmw (l:List (Rq)) (hl:l.length≤2^29) (h0:l≠[]) (S:List (List AV)):ev (100000+53) [.sl .sh (l.map rqF)] S=some (.ms 49 3 S.length 0 l.length,S++[rowE esQ l]):=by
 rw[qpo]
 have hall:allCells 3 (l.map rqF):=by simp
 obtain⟨L,hL⟩:∃L,l.map rqF=L:=⟨_,rfl⟩
 have hLl:L.length=l.length:=by rw[← hL];simp
 rw[hL] at hall ⊢
 rw[← hLl] at hl ⊢
 have hne:L≠[]:=by rw[← hL];simpa using h0
 have hie:L.isEmpty=false:=by simpa using hne
 refine qd (f:=100000+53) rfl Tryz.func53 rfl (by simp[Tryz.ntmps53]) (by kernel_rfl) (by kernel_rfl) ?_
 simp (maxSteps:=4000000) [hall,hne,hie,Tryz.results53]
 repeat (rw[ql];rotate_left;(· (try unfold most);omega);simp (maxSteps:=4000000) [hall,hne,hie,Tryz.results53])
theorem qpp (l:List (Rq)) (hl:l.length≤2^29) (hQ:∀x∈l,qQ x) (b:Nat) (S:List (List AV)) (hb:S[b]? = some (rowE esQ l)) :
  ev 57 [.ms 49 3 b 0 l.length,.fn 58 []] S=some (.tup [],S.set b (rowE esQ (isrt rqC l))):=by
 have h:=qgf qv7 b S l l.length hQ rfl (by omega) (List.getElem?_eq_some_iff.1 hb).1
 rwa [qid hb] at h
theorem qpq (l:List (Rp)):rowE esP l=flat (l.map rpF):=qeb (fun _=>rfl) l
theorem qs1 (l:List (Rp)):els2 true 4 4 (flat (l.map rpF)) 0 l.length=some (l.map rpF):=qe0 (E:=esP) (fun _=>rfl) (fun _=>rfl) (fun _=>rfl) (by decide) l
theorem qkr (S:List (List AV)):ev (100000+55) [.sl .sh []] S=some (.sl (.ex 57 4) [],S):=by
 refine qd (f:=100000+55) rfl Tryz.func55 rfl (by simp[Tryz.ntmps55]) (by kernel_rfl) (by kernel_rfl) ?_
 simp (maxSteps:=4000000) [Tryz.results55]
theorem qmx (l:List (Rp)) (hl:l.length≤2^29) (h0:l≠[]) (S:List (List AV)):ev (100000+55) [.sl .sh (l.map rpF)] S=some (.ms 57 4 S.length 0 l.length,S++[rowE esP l]):=by
 rw[qpq]
 have hall:allCells 4 (l.map rpF):=by simp
 obtain⟨L,hL⟩:∃L,l.map rpF=L:=⟨_,rfl⟩
 have hLl:L.length=l.length:=by rw[← hL];simp
 rw[hL] at hall ⊢
 rw[← hLl] at hl ⊢
 have hne:L≠[]:=by rw[← hL];simpa using h0
 have hie:L.isEmpty=false:=by simpa using hne
 refine qd (f:=100000+55) rfl Tryz.func55 rfl (by simp[Tryz.ntmps55]) (by kernel_rfl) (by kernel_rfl) ?_
 simp (maxSteps:=4000000) [hall,hne,hie,Tryz.results55]
 repeat (rw[ql];rotate_left;(· (try unfold most);omega);simp (maxSteps:=4000000) [hall,hne,hie,Tryz.results55])
theorem qpr (l:List (Rp)) (hl:l.length≤2^29) (hQ:∀x∈l,qP x) (b:Nat) (S:List (List AV)) (hb:S[b]? = some (rowE esP l)) :
  ev 60 [.ms 57 4 b 0 l.length,.fn 61 []] S=some (.tup [],S.set b (rowE esP (isrt rpC l))):=by
 have h:=qgh qv8 b S l l.length hQ rfl (by omega) (List.getElem?_eq_some_iff.1 hb).1
 rwa [qid hb] at h
theorem qps (l:List (Rt)):rowE esT l=flat (l.map rtF):=qeb (fun _=>rfl) l
theorem qs2 (l:List (Rt)):els2 true 2 2 (flat (l.map rtF)) 0 l.length=some (l.map rtF):=qe0 (E:=esT) (fun _=>rfl) (fun _=>rfl) (fun _=>rfl) (by decide) l
theorem qks (S:List (List AV)):ev (100000+56) [.sl .sh []] S=some (.sl (.ex 53 2) [],S):=by
 refine qd (f:=100000+56) rfl Tryz.func56 rfl (by simp[Tryz.ntmps56]) (by kernel_rfl) (by kernel_rfl) ?_
 simp (maxSteps:=4000000) [Tryz.results56]
theorem qmy (l:List (Rt)) (hl:l.length≤2^29) (h0:l≠[]) (S:List (List AV)):ev (100000+56) [.sl .sh (l.map rtF)] S=some (.ms 53 2 S.length 0 l.length,S++[rowE esT l]):=by
 rw[qps]
 have hall:allCells 2 (l.map rtF):=by simp
 obtain⟨L,hL⟩:∃L,l.map rtF=L:=⟨_,rfl⟩
 have hLl:L.length=l.length:=by rw[← hL];simp
 rw[hL] at hall ⊢
 rw[← hLl] at hl ⊢
 have hne:L≠[]:=by rw[← hL];simpa using h0
 have hie:L.isEmpty=false:=by simpa using hne
 refine qd (f:=100000+56) rfl Tryz.func56 rfl (by simp[Tryz.ntmps56]) (by kernel_rfl) (by kernel_rfl) ?_
 simp (maxSteps:=4000000) [hall,hne,hie,Tryz.results56]
 repeat (rw[ql];rotate_left;(· (try unfold most);omega);simp (maxSteps:=4000000) [hall,hne,hie,Tryz.results56])
theorem qpt (l:List (Rt)) (hl:l.length≤2^29) (hQ:∀x∈l,qdi x) (b:Nat) (S:List (List AV)) (hb:S[b]? = some (rowE esT l)) :
  ev 64 [.ms 53 2 b 0 l.length,.fn 65 []] S=some (.tup [],S.set b (rowE esT (isrt rtC l))):=by
 have h:=qgg qv9 b S l l.length hQ rfl (by omega) (List.getElem?_eq_some_iff.1 hb).1
 rwa [qid hb] at h
def canonM (f:Mf):Mf:={f with rq:=isrt rqC f.rq,ex:=isrt modC f.ex,rp:=isrt rpC f.rp,rt:=isrt rtC f.rt}
end Go.Proofs.Tryz.Ai
end
section
namespace Go.AI
section
variable {P:Program} {hh:Hint} {C:Oracle} {CP:Panics}
theorem qai {l l':List Oper} {st:St} {r:AV} (ds:List Nat) (o:Oper) (st0:St) (h1:(List.range (l.length-1)).all (fun j=>befL l j (l.length-1))=true) (h2:l[l.length-1]? = some o) (h3:allocDs l=ds)
  (h4:startD ds st=st0) (h5:l.take (l.length-1)=l') (k:PostD (runD P hh C ds l l' st0) fun st1=>wantedA l o.guard st1=some true∧okAll ds st1.t (wrT hh o)=true∧panOp hh CP o st1 r):panRD P hh C CP l st r:=by
 refine⟨h1,?_⟩
 rw[h2,qbt,h3,h4,h5]
 exact k
end
end Go.AI
namespace Go.Proofs.Tryz.Ai
open Go Go.AI Go.Proofs
set_option maxHeartbeats 8000000
set_option maxRecDepth 4000
set_option linter.unusedVariables false
def slN (t:TypeId) (n:Nat) (xs:List AV):AV:=match xs with
 | []=>.sl .nil []
 | x::r=>.sl (.ex t n) (x::r)
theorem qdc (t:TypeId) (n:Nat) (xs:List AV) (x:AV):slN t n (xs++[x])=.sl (.ex t n) (xs++[x]):=by
 cases xs<;>rfl
theorem qab (t:TypeId) (n:Nat) (xs:List AV):(xs=[]∧slN t n xs=.sl .nil [])∨slN t n xs=.sl (.ex t n) xs:=by
 cases xs with
 | nil=>exact .inl ⟨rfl,rfl⟩
 | cons x r=>exact .inr rfl
structure Ps where
 f:Mf
 line:Int
 blk:List UInt8
 ind:Bool
 md:Bool
def psC (p:Ps):List AV:=[.str p.f.m,.str p.f.g,slN 49 3 (p.f.rq.map rqF),slN 55 2 (p.f.ex.map modA),slN 57 4 (p.f.rp.map rpF),slN 53 2 (p.f.rt.map rtF),.int .i64 p.line,.str p.blk,.bool p.ind,.bool p.md]
def TkB (l:List Tok):Prop:=l.length≤2^28∧∀t∈l,t.2.length≤2^28
def stE (e:Int) (q:Ps):Except Int Ps:=if e=0 then .ok q else .error e
def StOk (g:FuncId) (R:Ps→List Tok→Except Int Ps):Prop :=
 ∀(b:Nat) (sh:Option (TypeId×Nat)) (p:Ps) (l:List Tok) (σ:List (List AV)),MfB p.f→TkB l→σ[b]? = some (psC p) →
  match R p l with
  | .ok q=>ev g [.gp b 0 sh,.sl .sh (l.map tkF)] σ=some (.tup [],σ.set b (psC q))
  | .error e=>pc g [.gp b 0 sh,.sl .sh (l.map tkF)] σ (fltV p.line e)
theorem textsB_len (l:List Tok):(textsB l).length=(l.map (·.1)).countP (·==119):=by
 unfold textsB
 rw[List.length_map,List.countP_map,List.countP_eq_length_filter];rfl
theorem qdd {l:List Tok} {k:List UInt8} {ws:List (List UInt8)} (h:wordsB l k=some ws):ws.length=k.countP (·==119):=by
 unfold wordsB at h
 split at h
 ·rename_i hk
  injection h with h
  unfold kindsB at hk
  rw[beq_iff_eq] at hk
  rw[← h,textsB_len,hk]
 ·cases h
theorem qp {l:List Tok} (hl:TkB l) {k:List UInt8} {ws:List (List UInt8)} (h:wordsB l k=some ws) {s:List UInt8} (hs:s∈ws):s.length≤2^28:=by
 unfold wordsB at h
 split at h
 ·injection h with h
  subst h
  unfold textsB at hs
  obtain⟨t,ht,rfl⟩:=List.mem_map.1 hs
  exact hl.2 t (List.mem_filter.1 ht).1
 ·cases h
theorem qpu {l:List Tok} {k:List UInt8} {ws:List (List UInt8)} (h:wordsB l k=some ws) (hk:k.countP (·==119)=1):∃a,ws=[a]:=by
 have:=qdd h
 rw[hk] at this
 match ws,this with
 | [a],_=>exact⟨a,rfl⟩
theorem qpv {l:List Tok} {k:List UInt8} {ws:List (List UInt8)} (h:wordsB l k=some ws) (hk:k.countP (·==119)=2):∃a b,ws=[a,b]:=by
 have:=qdd h
 rw[hk] at this
 match ws,this with
 | [a,b],_=>exact⟨a,b,rfl⟩
theorem qyq {l:List Tok} {k:List UInt8} {ws:List (List UInt8)} (h:wordsB l k=some ws) (hk:k.countP (·==119)=3):∃a b c,ws=[a,b,c]:=by
 have:=qdd h
 rw[hk] at this
 match ws,this with
 | [a,b,c],_=>exact⟨a,b,c,rfl⟩
theorem qyr {l:List Tok} {k:List UInt8} {ws:List (List UInt8)} (h:wordsB l k=some ws) (hk:k.countP (·==119)=4):∃a b c d,ws=[a,b,c,d]:=by
 have:=qdd h
 rw[hk] at this
 match ws,this with
 | [a,b,c,d],_=>exact⟨a,b,c,d,rfl⟩
theorem qcl {σ:List (List AV)} {b:Nat} (h:b<σ.length) (x:List AV) (J:List (List AV)):(σ++J).set b x=σ.set b x++J:=by rw[List.set_append_left _ _ h]
theorem qw {σ:List (List AV)} {b:Nat} {c:List AV} (h:σ[b]? = some c) (J:List (List AV)):(σ++J)[b]? = some c:=by rw[List.getElem?_append_left (List.getElem?_eq_some_iff.1 h).1,h]
theorem qde {σ:List (List AV)} {b:Nat} (h:b<σ.length) (y x:List AV) (J:List (List AV)):(σ.set b y++J).set b x=σ.set b x++J:=by rw[List.set_append_left _ _ (by simpa using h),List.set_set]
theorem qa3 {σ:List (List AV)} {b:Nat} (cs:List AV) (J:List (List AV)) (h:lowL σ.length cs):lowS σ (σ.set b cs++J):=by
 intro k hk
 rw[List.getElem?_append_left (by simpa using hk),List.getElem?_set]
 split
 ·rename_i e
  subst e
  rw[if_pos hk]
  exact .inr ⟨cs,rfl,h⟩
 ·exact .inl rfl
theorem qf1 {σ:List (List AV)} {b:Nat} (cs:List AV) (h:lowL σ.length cs):lowS σ (σ.set b cs):=by have:=qa3 (b:=b) cs [] h;rwa [List.append_nil] at this
theorem take_app {σ:List (List AV)} {b:Nat} (c:List AV) (J:List (List AV)):(σ.set b c++J).take σ.length=σ.set b c:=by
 rw[List.take_append_of_le_length (by simp),List.take_of_length_le (by simp)]
theorem qbj {σ:List (List AV)} {b:Nat} (h:b<σ.length) (c:List AV):(σ.set b c)[b]? = some c:=by rw[List.getElem?_set_self h]
def mdP (p:Ps) (l:List Tok):Except Int Ps:=match wordsB l [119] with
 | some [s]=>stE (fstE [if p.md then 12 else 0,(pathB s:Int)]) {p with md:=true,f:={p.f with m:=s}}
 | _=>.error 11
theorem qie:StOk 182 mdP:=by
 intro b sh p l σ hp hl hb
 have hbl:=(List.getElem?_eq_some_iff.1 hb).1
 have hg:=fun c=>qbj hbl c
 unfold mdP
 cases hw:wordsB l [119] with
 | none =>
  have h1:=form_pan b sh l (by have:=hl.1;omega) [119] (by simp) hw σ _ p.line hb rfl
  show pc _ _ _ _
  refine q8 0 2 rfl Tryz.func182 rfl (by simp[Tryz.ntmps182]) (by kernel_rfl) (by kernel_rfl) ?_
  simp (maxSteps:=4000000) [h1]
 | some ws =>
  obtain⟨s,rfl⟩:=qpu hw (by decide)
  have hf:=form_ok b sh l (by have:=hl.1;omega) [119] (by simp) _ hw
  have hs:=qp hl hw (List.mem_singleton_self s)
  have hP:=qb1 s (by omega)
  have hW:=fun b e=>qaw b e
  have h2:=fun a b=>qam [a,b] (by simp)
  simp only[List.map_cons,List.map_nil] at hf h2
  obtain⟨pp,hpp⟩:∃e:Int,(pathB s:Int)=e:=⟨_,rfl⟩
  rw[hpp] at hP
  simp only[hpp,stE]
  obtain⟨⟨m,g,rq,ex,rp,rt⟩,line,blk,ind,md⟩:=p
  simp only[psC] at hb ⊢
  obtain⟨A1,hA1⟩:∃A,slN 49 3 (rq.map rqF)=A:=⟨_,rfl⟩
  obtain⟨A2,hA2⟩:∃A,slN 55 2 (ex.map modA)=A:=⟨_,rfl⟩
  obtain⟨A3,hA3⟩:∃A,slN 57 4 (rp.map rpF)=A:=⟨_,rfl⟩
  obtain⟨A4,hA4⟩:∃A,slN 53 2 (rt.map rtF)=A:=⟨_,rfl⟩
  rw[hA1,hA2,hA3,hA4] at hb
  by_cases he:fstE [if md=true then 12 else 0,pp]=0
  ·have hm:=qbi b sh
   rw[if_pos he]
   simp only[hA1,hA2,hA3,hA4]
   show ev _ _ _=_
   refine qd rfl Tryz.func182 rfl (by simp[Tryz.ntmps182]) (by kernel_rfl) (by kernel_rfl) ?_
   simp (maxSteps:=4000000) [-getElem?_pos,hf,hb,hP,hW,h2,he,hm,hg,hbl,Tryz.results182]
  ·have hm:=qaa b sh σ _ line _ hb rfl he
   rw[if_neg he]
   show pc _ _ _ _
   refine q8 1 10 rfl Tryz.func182 rfl (by simp[Tryz.ntmps182]) (by kernel_rfl) (by kernel_rfl) ?_
   simp (maxSteps:=4000000) [-getElem?_pos,hf,hb,hP,hW,h2,hm]
def goP (p:Ps) (l:List Tok):Except Int Ps:=match wordsB l [119] with
 | some [s]=>stE (fstE [if (minorB s).isSome then 0 else 11,if p.f.g=[] then 0 else 12]) {p with f:={p.f with g:=s}}
 | _=>.error 11
theorem qpw:StOk 183 goP:=by
 intro b sh p l σ hp hl hb
 have hbl:=(List.getElem?_eq_some_iff.1 hb).1
 have hg:=fun c=>qbj hbl c
 unfold goP
 cases hw:wordsB l [119] with
 | none =>
  have h1:=form_pan b sh l (by have:=hl.1;omega) [119] (by simp) hw σ _ p.line hb rfl
  show pc _ _ _ _
  refine q8 0 2 rfl Tryz.func183 rfl (by simp[Tryz.ntmps183]) (by kernel_rfl) (by kernel_rfl) ?_
  simp (maxSteps:=4000000) [h1]
 | some ws =>
  obtain⟨s,rfl⟩:=qpu hw (by decide)
  have hf:=form_ok b sh l (by have:=hl.1;omega) [119] (by simp) _ hw
  have hs:=qp hl hw (List.mem_singleton_self s)
  have hP:=qlo s (by omega)
  have hW:=fun b e=>qaw b e
  have h2:=fun a b=>qam [a,b] (by simp)
  simp only[List.map_cons,List.map_nil] at hf h2
  obtain⟨pp,hpp⟩:∃e,(minorB s).isSome=e:=⟨_,rfl⟩
  rw[hpp] at hP
  simp only[hpp,stE]
  obtain⟨⟨m,g,rq,ex,rp,rt⟩,line,blk,ind,md⟩:=p
  simp only[psC] at hb ⊢
  obtain⟨A1,hA1⟩:∃A,slN 49 3 (rq.map rqF)=A:=⟨_,rfl⟩
  obtain⟨A2,hA2⟩:∃A,slN 55 2 (ex.map modA)=A:=⟨_,rfl⟩
  obtain⟨A3,hA3⟩:∃A,slN 57 4 (rp.map rpF)=A:=⟨_,rfl⟩
  obtain⟨A4,hA4⟩:∃A,slN 53 2 (rt.map rtF)=A:=⟨_,rfl⟩
  rw[hA1,hA2,hA3,hA4] at hb
  obtain⟨E,hE⟩:∃E,fstE [if pp=true then 0 else 11,if g=[] then 0 else 12]=E:=⟨_,rfl⟩
  rw[hE]
  have e00:fstE [0,0]=0:=rfl
  by_cases he:E=0
  ·have hm:=qbi b sh
   rw[if_pos he]
   simp only[hA1,hA2,hA3,hA4]
   show ev _ _ _=_
   subst he
   by_cases hg0:g=[]
   ·subst hg0
    rw[if_pos rfl] at hE
    cases pp with
    | false=>simp[fstE,orI] at hE
    | true =>
     refine qd rfl Tryz.func183 rfl (by simp[Tryz.ntmps183]) (by kernel_rfl) (by kernel_rfl) ?_
     simp (maxSteps:=4000000) [-getElem?_pos,-qb,hf,hb,hP]
     refine qg [] _ (k:=?_)
     repeat (first|refine qe _ (hs:=by simp (maxSteps:=4000000) [-getElem?_pos,hf,hb,hP,hW,h2,hm,hg,hbl,e00];exact rfl) (k:=?_)|refine qf _ (k:=?_))
     refine qc ?_
     simp (maxSteps:=4000000) [-getElem?_pos,hb,hg,hbl,Tryz.results183]
   ·rw[if_neg hg0] at hE
    cases pp<;>simp[fstE,orI] at hE
  ·have hm:=qaa b sh σ _ line _ hb rfl he
   rw[if_neg he]
   show pc _ _ _ _
   by_cases hg0:g=[]
   ·subst hg0
    rw[if_pos rfl] at hE
    cases pp with
    | true=>exact absurd hE.symm he
    | false =>
     replace hE:fstE [11,0]=E:=hE
     refine q8 2 13 rfl Tryz.func183 rfl (by simp[Tryz.ntmps183]) (by kernel_rfl) (by kernel_rfl) ?_
     simp (maxSteps:=4000000) [-getElem?_pos,hf,hb,hP]
     refine qai [] _ _ (by kernel_rfl) (by rfl) (by rfl) (by simp (maxSteps:=4000000) [];exact rfl) (by simp only[List.length_cons,List.length_nil,Nat.reduceAdd,Nat.reduceSub,List.take_succ_cons,List.take_zero];exact rfl) ?_
     repeat (first|refine qe _ (hs:=by simp (maxSteps:=4000000) [-getElem?_pos,hb,hW,h2,hE];exact rfl) (k:=?_)|refine qf _ (k:=?_))
     refine qc ?_
     simp (maxSteps:=4000000) [hm]
   ·rw[if_neg hg0] at hE
    have hg0':(g==[])=false:=by simpa using hg0
    cases pp with
    | true =>
     replace hE:fstE [0,12]=E:=hE
     refine q8 2 13 rfl Tryz.func183 rfl (by simp[Tryz.ntmps183]) (by kernel_rfl) (by kernel_rfl) ?_
     simp (maxSteps:=4000000) [-getElem?_pos,hf,hb,hP]
     refine qai [] _ _ (by kernel_rfl) (by rfl) (by rfl) (by simp (maxSteps:=4000000) [];exact rfl) (by simp only[List.length_cons,List.length_nil,Nat.reduceAdd,Nat.reduceSub,List.take_succ_cons,List.take_zero];exact rfl) ?_
     repeat (first|refine qe _ (hs:=by simp (maxSteps:=4000000) [-getElem?_pos,hb,hW,h2,hg0,hg0',hE];exact rfl) (k:=?_)|refine qf _ (k:=?_))
     refine qc ?_
     simp (maxSteps:=4000000) [hm]
    | false =>
     replace hE:fstE [11,12]=E:=hE
     refine q8 2 13 rfl Tryz.func183 rfl (by simp[Tryz.ntmps183]) (by kernel_rfl) (by kernel_rfl) ?_
     simp (maxSteps:=4000000) [-getElem?_pos,hf,hb,hP]
     refine qai [] _ _ (by kernel_rfl) (by rfl) (by rfl) (by simp (maxSteps:=4000000) [];exact rfl) (by simp only[List.length_cons,List.length_nil,Nat.reduceAdd,Nat.reduceSub,List.take_succ_cons,List.take_zero];exact rfl) ?_
     repeat (first|refine qe _ (hs:=by simp (maxSteps:=4000000) [-getElem?_pos,hb,hW,h2,hg0,hg0',hE];exact rfl) (k:=?_)|refine qf _ (k:=?_))
     refine qc ?_
     simp (maxSteps:=4000000) [hm]
end Go.Proofs.Tryz.Ai
end
section
namespace Go.Proofs.Tryz.Ai
open Go Go.AI Go.Proofs
set_option maxHeartbeats 8000000
set_option maxRecDepth 4000
set_option linter.unusedVariables false
theorem qad {m:Nat} (t:TypeId) (n:Nat) {xs:List AV} (h:lowL m xs):low m (slN t n xs):=by
 cases xs with
 | nil=>simp[slN,low,lowL]
 | cons a l=>exact h
def rqP (p:Ps) (l:List Tok):Except Int Ps:=match wordsB l [119,119] with
 | some [s,v]=>if 200≤p.f.rq.length then .error 14 else stE (fstE [(checkB s v:Int),if p.f.rq.any (isQ s) then 12 else 0]) {p with f:={p.f with rq:=p.f.rq++[(s,v,p.ind)]}}
 | _=>.error 11
theorem qgl:StOk 184 rqP:=by
 intro b sh p l σ hp hl hb
 have hbl:=(List.getElem?_eq_some_iff.1 hb).1
 have hg:=fun c=>qbj hbl c
 unfold rqP
 cases hw:wordsB l [119,119] with
 | none =>
  have h1:=form_pan b sh l (by have:=hl.1;omega) [119,119] (by simp) hw σ _ p.line hb rfl
  show pc _ _ _ _
  refine q8 0 2 rfl Tryz.func184 rfl (by simp[Tryz.ntmps184]) (by kernel_rfl) (by kernel_rfl) ?_
  simp (maxSteps:=4000000) [h1]
 | some ws =>
  obtain⟨s,v,rfl⟩:=qpv hw (by decide)
  have hf:=form_ok b sh l (by have:=hl.1;omega) [119,119] (by simp) _ hw
  have hs:=qp hl hw (s:=s) (by simp)
  have hv:=qp hl hw (s:=v) (by simp)
  have hP:=qda s v (by omega) (by omega)
  have hW:=fun b e=>qaw b e
  have h2:=fun a b=>qam [a,b] (by simp)
  simp only[List.map_cons,List.map_nil] at hf h2
  obtain⟨pp,hpp⟩:∃e:Int,(checkB s v:Int)=e:=⟨_,rfl⟩
  rw[hpp] at hP
  simp only[hpp,stE]
  have hlq:=hp.lq
  obtain⟨⟨m,g,rq,ex,rp,rt⟩,line,blk,ind,md⟩:=p
  simp only[psC] at hb hlq ⊢
  obtain⟨A2,hA2⟩:∃A,slN 55 2 (ex.map modA)=A:=⟨_,rfl⟩
  rw[hA2] at hb
  have lw2:low σ.length A2:=by rw[← hA2];exact qad _ _ (by simp)
  obtain⟨A3,hA3⟩:∃A,slN 57 4 (rp.map rpF)=A:=⟨_,rfl⟩
  rw[hA3] at hb
  have lw3:low σ.length A3:=by rw[← hA3];exact qad _ _ (by simp)
  obtain⟨A4,hA4⟩:∃A,slN 53 2 (rt.map rtF)=A:=⟨_,rfl⟩
  rw[hA4] at hb
  have lw4:low σ.length A4:=by rw[← hA4];exact qad _ _ (by simp)
  have hO:=fun σ=>qv6 (s,v,ind) σ
  have hOP:=fun σ=>qfz s σ
  have hCF:=fun (S:List (List AV))=>qbg rq (by omega) 144 (by decide) [.gp S.length 0 (some (9,1))] (by simp[args,arg,dem]) (isQ s) (S++[[.str s]]) (fun y _=>qed s _ _ y _ (by simp))
  obtain⟨t,ht⟩:∃t,rq.any (isQ s)=t:=⟨_,rfl⟩
  simp only[ht] at hCF ⊢
  simp only[rqFx,modAx] at hO
  obtain⟨E,hE⟩:∃E,fstE [pp,if t=true then 12 else 0]=E:=⟨_,rfl⟩
  rw[hE]
  obtain⟨L,hL⟩:∃L,rq.map rqF=L:=⟨_,rfl⟩
  have hLl:L.length=rq.length:=by rw[← hL];simp
  have hall:allCells 3 L:=by rw[← hL];simp
  rw[hL] at hb hCF
  by_cases hr:200≤rq.length
  ·rw[if_pos hr]
   show pc _ _ _ _
   have hm:=fun J=>qa2 b sh rq.length hr (σ++J) _ line (qw hb J) rfl
   have hm0:=qa2 b sh rq.length hr σ _ line hb rfl
   rcases qab 49 3 L with ⟨h0,h1⟩|h1
   ·rw[h0] at hLl;simp at hLl;omega
   ·rw[h1] at hb
    refine q8 2 7 rfl Tryz.func184 rfl (by simp[Tryz.ntmps184]) (by kernel_rfl) (by kernel_rfl) ?_
    simp (maxSteps:=4000000) [-getElem?_pos,-qb,hf]
    refine qg [5] _ (k:=?_)
    repeat (first|refine qe _ (hs:=by simp (maxSteps:=4000000) [-getElem?_pos,hb];exact rfl) (k:=?_)|refine qf _ (k:=?_))
    refine qc ?_
    simp (maxSteps:=4000000) [-getElem?_pos,hb,hLl,hm,hm0]
  ·rw[if_neg hr]
   have hr':rq.length<200:=by omega
   have hR:=qeg b sh rq.length hr'
   have hx:slN 49 3 ((rq++[(s,v,ind)]).map rqF)=.sl (.ex 49 3) (L++[.agg [.str s,.str v,.bool ind]]):=by rw[List.map_append,hL];exact qdc _ _ _ _
   have lwL:lowL σ.length L:=by rw[← hL];simp
   have lwx:low σ.length (.agg [.str s,.str v,.bool ind]):=by simp[low,lowL]
   have hR0:rq.length=0→∀σ,ev 237 [.gp b 0 sh,.int .i64 0] σ=some (.tup [],σ):=fun h=>by rw[h] at hR;exact hR
   by_cases he:E=0
   ·rw[if_pos he]
    simp only[hA2,hA3,hA4,hx]
    show ev _ _ _=_
    have hm:=qbi b sh
    have hac:allCells 3 [.agg [.str s,.str v,.bool ind]]:=by simp[allCells,AV.cells]
    have hlm:L.length+1≤most:=by unfold most;omega
    have h1m:1≤most:=by unfold most;omega
    have hsa:=fun x J=>qcl hbl x J
    have hsa2:=fun y x J=>qde hbl y x J
    have hg2:∀(c:List AV) (J:List (List AV)),(σ.set b c++J)[b]? = some c:=fun c J=>qw (hg c) J
    subst he
    rcases qab 49 3 L with ⟨h0,h1⟩|h1
    ·subst h0
     replace hR0:=hR0 (by simpa using hLl.symm)
     rw[h1] at hb
     have hga:=fun J=>qw hb J
     refine qd rfl Tryz.func184 rfl (by simp[Tryz.ntmps184]) (by kernel_rfl) (by kernel_rfl) ?_
     simp (maxSteps:=4000000) [-getElem?_pos,-qb,hf]
     refine qg [5] _ (k:=?_)
     repeat (first|refine qe _ (hs:=by simp (maxSteps:=4000000) [-getElem?_pos,hb];exact rfl) (k:=?_)|refine qf _ (k:=?_))
     refine qc ?_
     simp (maxSteps:=4000000) [-getElem?_pos,-qb,hb,hR0]
     refine qg [] _ (k:=?_)
     repeat (first|refine qe _ (hs:=by simp (maxSteps:=4000000) [-getElem?_pos,hb,hW,h2,hE,hm,hO,hP,hOP,hCF];exact rfl) (k:=?_)|refine qf _ (k:=?_))
     refine qc ?_
     simp (maxSteps:=4000000) [-getElem?_pos,-qb]
     refine qg [] _ (k:=?_)
     repeat (first|refine qe _ (hs:=by simp (maxSteps:=4000000) [-getElem?_pos,hb,hga,hg,hsa,hg2,hac,hall,hlm,h1m];exact rfl) (k:=?_)|refine qf _ (k:=?_))
     refine qc ?_
     simp (maxSteps:=4000000) [-getElem?_pos,hsa,hsa2,hg2,hg,take_app,Tryz.results184]
     all_goals rw[ql (qa3 _ _ (by simp[low,lowL,lw2,lw3,lw4,lwL]))]
    ·rw[h1] at hb
     have hga:=fun J=>qw hb J
     refine qd rfl Tryz.func184 rfl (by simp[Tryz.ntmps184]) (by kernel_rfl) (by kernel_rfl) ?_
     simp (maxSteps:=4000000) [-getElem?_pos,-qb,hf]
     refine qg [5] _ (k:=?_)
     repeat (first|refine qe _ (hs:=by simp (maxSteps:=4000000) [-getElem?_pos,hb];exact rfl) (k:=?_)|refine qf _ (k:=?_))
     refine qc ?_
     simp (maxSteps:=4000000) [-getElem?_pos,-qb,hb,hLl,hR]
     refine qg [] _ (k:=?_)
     repeat (first|refine qe _ (hs:=by simp (maxSteps:=4000000) [-getElem?_pos,hb,hW,h2,hE,hm,hO,hP,hOP,hCF];exact rfl) (k:=?_)|refine qf _ (k:=?_))
     refine qc ?_
     simp (maxSteps:=4000000) [-getElem?_pos,-qb]
     refine qg [] _ (k:=?_)
     repeat (first|refine qe _ (hs:=by simp (maxSteps:=4000000) [-getElem?_pos,hb,hga,hg,hsa,hg2,hac,hall,hlm,h1m];exact rfl) (k:=?_)|refine qf _ (k:=?_))
     refine qc ?_
     simp (maxSteps:=4000000) [-getElem?_pos,hsa,hsa2,hg2,hg,take_app,Tryz.results184]
     all_goals rw[ql (qa3 _ _ (by simp[low,lowL,lw2,lw3,lw4,lwL]))]
   ·rw[if_neg he]
    show pc _ _ _ _
    have hm:=fun J=>qaa b sh (σ++J) _ line _ (qw hb J) rfl he
    have hm0:=qaa b sh σ _ line _ hb rfl he
    rcases qab 49 3 L with ⟨h0,h1⟩|h1
    ·subst h0
     replace hR0:=hR0 (by simpa using hLl.symm)
     rw[h1] at hb
     refine q8 3 16 rfl Tryz.func184 rfl (by simp[Tryz.ntmps184]) (by kernel_rfl) (by kernel_rfl) ?_
     simp (maxSteps:=4000000) [-getElem?_pos,-qb,hf]
     refine qg [5] _ (k:=?_)
     repeat (first|refine qe _ (hs:=by simp (maxSteps:=4000000) [-getElem?_pos,hb];exact rfl) (k:=?_)|refine qf _ (k:=?_))
     refine qc ?_
     simp (maxSteps:=4000000) [-getElem?_pos,-qb,hb,hR0]
     refine qai [] _ _ (by kernel_rfl) (by rfl) (by rfl) (by simp (maxSteps:=4000000) [];exact rfl) (by simp only[List.length_cons,List.length_nil,Nat.reduceAdd,Nat.reduceSub,List.take_succ_cons,List.take_zero];exact rfl) ?_
     repeat (first|refine qe _ (hs:=by simp (maxSteps:=4000000) [-getElem?_pos,hb,hW,h2,hE,hO,hP,hOP,hCF];exact rfl) (k:=?_)|refine qf _ (k:=?_))
     refine qc ?_
     simp (maxSteps:=4000000) [hm,hm0]
    ·rw[h1] at hb
     refine q8 3 16 rfl Tryz.func184 rfl (by simp[Tryz.ntmps184]) (by kernel_rfl) (by kernel_rfl) ?_
     simp (maxSteps:=4000000) [-getElem?_pos,-qb,hf]
     refine qg [5] _ (k:=?_)
     repeat (first|refine qe _ (hs:=by simp (maxSteps:=4000000) [-getElem?_pos,hb];exact rfl) (k:=?_)|refine qf _ (k:=?_))
     refine qc ?_
     simp (maxSteps:=4000000) [-getElem?_pos,-qb,hb,hLl,hR]
     refine qai [] _ _ (by kernel_rfl) (by rfl) (by rfl) (by simp (maxSteps:=4000000) [];exact rfl) (by simp only[List.length_cons,List.length_nil,Nat.reduceAdd,Nat.reduceSub,List.take_succ_cons,List.take_zero];exact rfl) ?_
     repeat (first|refine qe _ (hs:=by simp (maxSteps:=4000000) [-getElem?_pos,hb,hW,h2,hE,hO,hP,hOP,hCF];exact rfl) (k:=?_)|refine qf _ (k:=?_))
     refine qc ?_
     simp (maxSteps:=4000000) [hm,hm0]
end Go.Proofs.Tryz.Ai
end
section
namespace Go.Proofs.Tryz.Ai
open Go Go.AI Go.Proofs
set_option maxHeartbeats 8000000
set_option maxRecDepth 4000
set_option linter.unusedVariables false
def exP (p:Ps) (l:List Tok):Except Int Ps:=match wordsB l [119,119] with
 | some [s,v]=>if 200≤p.f.ex.length then .error 14 else stE (fstE [(checkB s v:Int),if p.f.ex.any ((s,v)==·) then 12 else 0]) {p with f:={p.f with ex:=p.f.ex++[(s,v)]}}
 | _=>.error 11
theorem qgm:StOk 185 exP:=by
 intro b sh p l σ hp hl hb
 have hbl:=(List.getElem?_eq_some_iff.1 hb).1
 have hg:=fun c=>qbj hbl c
 unfold exP
 cases hw:wordsB l [119,119] with
 | none =>
  have h1:=form_pan b sh l (by have:=hl.1;omega) [119,119] (by simp) hw σ _ p.line hb rfl
  show pc _ _ _ _
  refine q8 0 2 rfl Tryz.func185 rfl (by simp[Tryz.ntmps185]) (by kernel_rfl) (by kernel_rfl) ?_
  simp (maxSteps:=4000000) [h1]
 | some ws =>
  obtain⟨s,v,rfl⟩:=qpv hw (by decide)
  have hf:=form_ok b sh l (by have:=hl.1;omega) [119,119] (by simp) _ hw
  have hs:=qp hl hw (s:=s) (by simp)
  have hv:=qp hl hw (s:=v) (by simp)
  have hP:=qda s v (by omega) (by omega)
  have hW:=fun b e=>qaw b e
  have h2:=fun a b=>qam [a,b] (by simp)
  simp only[List.map_cons,List.map_nil] at hf h2
  obtain⟨pp,hpp⟩:∃e:Int,(checkB s v:Int)=e:=⟨_,rfl⟩
  rw[hpp] at hP
  simp only[hpp,stE]
  have hlq:=hp.le
  obtain⟨⟨m,g,rq,ex,rp,rt⟩,line,blk,ind,md⟩:=p
  simp only[psC] at hb hlq ⊢
  obtain⟨A1,hA1⟩:∃A,slN 49 3 (rq.map rqF)=A:=⟨_,rfl⟩
  rw[hA1] at hb
  have lw1:low σ.length A1:=by rw[← hA1];exact qad _ _ (by simp)
  obtain⟨A3,hA3⟩:∃A,slN 57 4 (rp.map rpF)=A:=⟨_,rfl⟩
  rw[hA3] at hb
  have lw3:low σ.length A3:=by rw[← hA3];exact qad _ _ (by simp)
  obtain⟨A4,hA4⟩:∃A,slN 53 2 (rt.map rtF)=A:=⟨_,rfl⟩
  rw[hA4] at hb
  have lw4:low σ.length A4:=by rw[← hA4];exact qad _ _ (by simp)
  have hCF:=fun σ=>qjk ex (by omega) (s,v) σ
  obtain⟨t,ht⟩:∃t,ex.any ((s,v)==·)=t:=⟨_,rfl⟩
  simp only[ht] at hCF ⊢
  simp only[modAx (s,v)] at hCF
  obtain⟨E,hE⟩:∃E,fstE [pp,if t=true then 12 else 0]=E:=⟨_,rfl⟩
  rw[hE]
  obtain⟨L,hL⟩:∃L,ex.map modA=L:=⟨_,rfl⟩
  have hLl:L.length=ex.length:=by rw[← hL];simp
  have hall:allCells 2 L:=by rw[← hL];simp
  rw[hL] at hb hCF
  by_cases hr:200≤ex.length
  ·rw[if_pos hr]
   show pc _ _ _ _
   have hm:=fun J=>qa2 b sh ex.length hr (σ++J) _ line (qw hb J) rfl
   have hm0:=qa2 b sh ex.length hr σ _ line hb rfl
   rcases qab 55 2 L with ⟨h0,h1⟩|h1
   ·rw[h0] at hLl;simp at hLl;omega
   ·rw[h1] at hb
    refine q8 2 7 rfl Tryz.func185 rfl (by simp[Tryz.ntmps185]) (by kernel_rfl) (by kernel_rfl) ?_
    simp (maxSteps:=4000000) [-getElem?_pos,-qb,hf]
    refine qg [5] _ (k:=?_)
    repeat (first|refine qe _ (hs:=by simp (maxSteps:=4000000) [-getElem?_pos,hb];exact rfl) (k:=?_)|refine qf _ (k:=?_))
    refine qc ?_
    simp (maxSteps:=4000000) [-getElem?_pos,hb,hLl,hm,hm0]
  ·rw[if_neg hr]
   have hr':ex.length<200:=by omega
   have hR:=qeg b sh ex.length hr'
   have hx:slN 55 2 ((ex++[(s,v)]).map modA)=.sl (.ex 55 2) (L++[.agg [.str s,.str v]]):=by rw[List.map_append,hL];exact qdc _ _ _ _
   have lwL:lowL σ.length L:=by rw[← hL];simp
   have lwx:low σ.length (.agg [.str s,.str v]):=by simp[low,lowL]
   have hR0:ex.length=0→∀σ,ev 237 [.gp b 0 sh,.int .i64 0] σ=some (.tup [],σ):=fun h=>by rw[h] at hR;exact hR
   by_cases he:E=0
   ·rw[if_pos he]
    simp only[hA1,hA3,hA4,hx]
    show ev _ _ _=_
    have hm:=qbi b sh
    have hac:allCells 2 [.agg [.str s,.str v]]:=by simp[allCells,AV.cells]
    have hlm:L.length+1≤most:=by unfold most;omega
    have h1m:1≤most:=by unfold most;omega
    have hsa:=fun x J=>qcl hbl x J
    have hsa2:=fun y x J=>qde hbl y x J
    have hg2:∀(c:List AV) (J:List (List AV)),(σ.set b c++J)[b]? = some c:=fun c J=>qw (hg c) J
    subst he
    rcases qab 55 2 L with ⟨h0,h1⟩|h1
    ·subst h0
     replace hR0:=hR0 (by simpa using hLl.symm)
     rw[h1] at hb
     have hga:=fun J=>qw hb J
     refine qd rfl Tryz.func185 rfl (by simp[Tryz.ntmps185]) (by kernel_rfl) (by kernel_rfl) ?_
     simp (maxSteps:=4000000) [-getElem?_pos,-qb,hf]
     refine qg [5] _ (k:=?_)
     repeat (first|refine qe _ (hs:=by simp (maxSteps:=4000000) [-getElem?_pos,hb];exact rfl) (k:=?_)|refine qf _ (k:=?_))
     refine qc ?_
     simp (maxSteps:=4000000) [-getElem?_pos,-qb,hb,hR0]
     refine qg [] _ (k:=?_)
     repeat (first|refine qe _ (hs:=by simp (maxSteps:=4000000) [-getElem?_pos,hb,hW,h2,hE,hm,hP,hCF];exact rfl) (k:=?_)|refine qf _ (k:=?_))
     refine qc ?_
     simp (maxSteps:=4000000) [-getElem?_pos,-qb]
     refine qg [] _ (k:=?_)
     repeat (first|refine qe _ (hs:=by simp (maxSteps:=4000000) [-getElem?_pos,hb,hga,hg,hsa,hg2,hac,hall,hlm,h1m];exact rfl) (k:=?_)|refine qf _ (k:=?_))
     refine qc ?_
     simp (maxSteps:=4000000) [-getElem?_pos,hsa,hsa2,hg2,hg,take_app,Tryz.results185]
     all_goals rw[ql (qa3 _ _ (by simp[low,lowL,lw1,lw3,lw4,lwL]))]
    ·rw[h1] at hb
     have hga:=fun J=>qw hb J
     refine qd rfl Tryz.func185 rfl (by simp[Tryz.ntmps185]) (by kernel_rfl) (by kernel_rfl) ?_
     simp (maxSteps:=4000000) [-getElem?_pos,-qb,hf]
     refine qg [5] _ (k:=?_)
     repeat (first|refine qe _ (hs:=by simp (maxSteps:=4000000) [-getElem?_pos,hb];exact rfl) (k:=?_)|refine qf _ (k:=?_))
     refine qc ?_
     simp (maxSteps:=4000000) [-getElem?_pos,-qb,hb,hLl,hR]
     refine qg [] _ (k:=?_)
     repeat (first|refine qe _ (hs:=by simp (maxSteps:=4000000) [-getElem?_pos,hb,hW,h2,hE,hm,hP,hCF];exact rfl) (k:=?_)|refine qf _ (k:=?_))
     refine qc ?_
     simp (maxSteps:=4000000) [-getElem?_pos,-qb]
     refine qg [] _ (k:=?_)
     repeat (first|refine qe _ (hs:=by simp (maxSteps:=4000000) [-getElem?_pos,hb,hga,hg,hsa,hg2,hac,hall,hlm,h1m];exact rfl) (k:=?_)|refine qf _ (k:=?_))
     refine qc ?_
     simp (maxSteps:=4000000) [-getElem?_pos,hsa,hsa2,hg2,hg,take_app,Tryz.results185]
     all_goals rw[ql (qa3 _ _ (by simp[low,lowL,lw1,lw3,lw4,lwL]))]
   ·rw[if_neg he]
    show pc _ _ _ _
    have hm:=fun J=>qaa b sh (σ++J) _ line _ (qw hb J) rfl he
    have hm0:=qaa b sh σ _ line _ hb rfl he
    rcases qab 55 2 L with ⟨h0,h1⟩|h1
    ·subst h0
     replace hR0:=hR0 (by simpa using hLl.symm)
     rw[h1] at hb
     refine q8 3 13 rfl Tryz.func185 rfl (by simp[Tryz.ntmps185]) (by kernel_rfl) (by kernel_rfl) ?_
     simp (maxSteps:=4000000) [-getElem?_pos,-qb,hf]
     refine qg [5] _ (k:=?_)
     repeat (first|refine qe _ (hs:=by simp (maxSteps:=4000000) [-getElem?_pos,hb];exact rfl) (k:=?_)|refine qf _ (k:=?_))
     refine qc ?_
     simp (maxSteps:=4000000) [-getElem?_pos,-qb,hb,hR0]
     refine qai [] _ _ (by kernel_rfl) (by rfl) (by rfl) (by simp (maxSteps:=4000000) [];exact rfl) (by simp only[List.length_cons,List.length_nil,Nat.reduceAdd,Nat.reduceSub,List.take_succ_cons,List.take_zero];exact rfl) ?_
     repeat (first|refine qe _ (hs:=by simp (maxSteps:=4000000) [-getElem?_pos,hb,hW,h2,hE,hP,hCF];exact rfl) (k:=?_)|refine qf _ (k:=?_))
     refine qc ?_
     simp (maxSteps:=4000000) [hm,hm0]
    ·rw[h1] at hb
     refine q8 3 13 rfl Tryz.func185 rfl (by simp[Tryz.ntmps185]) (by kernel_rfl) (by kernel_rfl) ?_
     simp (maxSteps:=4000000) [-getElem?_pos,-qb,hf]
     refine qg [5] _ (k:=?_)
     repeat (first|refine qe _ (hs:=by simp (maxSteps:=4000000) [-getElem?_pos,hb];exact rfl) (k:=?_)|refine qf _ (k:=?_))
     refine qc ?_
     simp (maxSteps:=4000000) [-getElem?_pos,-qb,hb,hLl,hR]
     refine qai [] _ _ (by kernel_rfl) (by rfl) (by rfl) (by simp (maxSteps:=4000000) [];exact rfl) (by simp only[List.length_cons,List.length_nil,Nat.reduceAdd,Nat.reduceSub,List.take_succ_cons,List.take_zero];exact rfl) ?_
     repeat (first|refine qe _ (hs:=by simp (maxSteps:=4000000) [-getElem?_pos,hb,hW,h2,hE,hP,hCF];exact rfl) (k:=?_)|refine qf _ (k:=?_))
     refine qc ?_
     simp (maxSteps:=4000000) [hm,hm0]
end Go.Proofs.Tryz.Ai
end
section
namespace Go.Proofs.Tryz.Ai
open Go Go.AI Go.Proofs
set_option maxHeartbeats 8000000
set_option maxRecDepth 4000
set_option linter.unusedVariables false
def rpW (l:List Tok):Option Rp:=match wordsB l [119,62,119,119] with
 | some [a,c,d]=>some ((a,[]),c,d)
 | _=>match wordsB l [119,119,62,119,119] with
  | some [a,b,c,d]=>some ((a,b),c,d)
  | _=>none
def rpP (p:Ps) (l:List Tok):Except Int Ps:=match rpW l with
 | some r=>if 200≤p.f.rp.length then .error 14 else stE (fstE [rpE r,if p.f.rp.any (fun x=>isM r.1 x.1) then 12 else 0]) {p with f:={p.f with rp:=p.f.rp++[r]}}
 | none=>.error 11
theorem qgn:StOk 186 rpP:=by
 intro b sh p l σ hp hl hb
 have hbl:=(List.getElem?_eq_some_iff.1 hb).1
 have hg:=fun c=>qbj hbl c
 have hwq:=qdb l (by have:=hl.1;omega) [119,62,119,119] (by simp)
 have hW:=fun b e=>qaw b e
 have h2:=fun a b=>qam [a,b] (by simp)
 have hlq:=hp.lp
 simp only[List.map_cons,List.map_nil] at h2
 cases hw:wordsB l [119,62,119,119] with
 | none =>
  rw[hw] at hwq
  simp only[wordsAV,Option.getD_none,Option.isSome_none,List.map_nil] at hwq
  cases hw2:wordsB l [119,119,62,119,119] with
  | none =>
   have hW0:rpW l=none:=by unfold rpW;rw[hw,hw2]
   have h1:=form_pan b sh l (by have:=hl.1;omega) [119,119,62,119,119] (by simp) hw2 σ _ p.line hb rfl
   unfold rpP
   rw[hW0]
   show pc _ _ _ _
   refine q8 3 2 rfl Tryz.func186 rfl (by simp[Tryz.ntmps186]) (by kernel_rfl) (by kernel_rfl) ?_
   simp (maxSteps:=4000000) [-getElem?_pos,hwq,h1]
  | some ws =>
   obtain⟨a,b0,c,d,rfl⟩:=qyr hw2 (by decide)
   have hf:=form_ok b sh l (by have:=hl.1;omega) [119,119,62,119,119] (by simp) _ hw2
   simp only[List.map_cons,List.map_nil] at hf
   have hW0:rpW l=some ((a,b0),c,d):=by unfold rpW;rw[hw,hw2]
   unfold rpP
   rw[hW0]
   have ha:=qp hl hw2 (s:=a) (by simp)
   have hb0:=qp hl hw2 (s:=b0) (by simp)
   have hc:=qp hl hw2 (s:=c) (by simp)
   have hd:=qp hl hw2 (s:=d) (by simp)
   have hP:=fun σ=>qbv ((a,b0),c,d) ⟨by simp only;omega,by simp only[List.length_nil];omega⟩ ⟨by simp only;omega,by simp only;omega⟩ σ
   have hOP:=fun σ=>qee ((a,b0),c,d) σ
   simp only[rpFx] at hP hOP
   obtain⟨pp,hpp⟩:∃e:Int,rpE ((a,b0),c,d)=e:=⟨_,rfl⟩
   rw[hpp] at hP
   simp only[hpp,stE]
   obtain⟨⟨m,g,rq,ex,rp,rt⟩,line,blk,ind,md⟩:=p
   simp only[psC] at hb hlq ⊢
   obtain⟨A1,hA1⟩:∃A,slN 49 3 (rq.map rqF)=A:=⟨_,rfl⟩
   rw[hA1] at hb
   have lw1:low σ.length A1:=by rw[← hA1];exact qad _ _ (by simp)
   obtain⟨A2,hA2⟩:∃A,slN 55 2 (ex.map modA)=A:=⟨_,rfl⟩
   rw[hA2] at hb
   have lw2:low σ.length A2:=by rw[← hA2];exact qad _ _ (by simp)
   obtain⟨A4,hA4⟩:∃A,slN 53 2 (rt.map rtF)=A:=⟨_,rfl⟩
   rw[hA4] at hb
   have lw4:low σ.length A4:=by rw[← hA4];exact qad _ _ (by simp)
   have hCF:=fun (S:List (List AV))=>qbh rp (by omega) 156 (by decide) [.gp S.length 0 (some (55,2))] (by simp[args,arg,dem]) (fun x=>isM (a,b0) x.1) (S++[[.str a,.str b0]]) (fun y _=>qf0 (a,b0) _ _ y _ (by simp))
   obtain⟨t,ht⟩:∃t,(rp.any fun x=>isM (a,b0) x.1)=t:=⟨_,rfl⟩
   simp only[ht] at hCF ⊢
   obtain⟨E,hE⟩:∃E,fstE [pp,if t=true then 12 else 0]=E:=⟨_,rfl⟩
   rw[hE]
   obtain⟨L,hL⟩:∃L,rp.map rpF=L:=⟨_,rfl⟩
   have hLl:L.length=rp.length:=by rw[← hL];simp
   have hall:allCells 4 L:=by rw[← hL];simp
   rw[hL] at hb hCF
   by_cases hr:200≤rp.length
   ·rw[if_pos hr]
    show pc _ _ _ _
    have hm:=fun J=>qa2 b sh rp.length hr (σ++J) _ line (qw hb J) rfl
    have hm0:=qa2 b sh rp.length hr σ _ line hb rfl
    rcases qab 57 4 L with ⟨h0,h1⟩|h1
    ·rw[h0] at hLl;simp at hLl;omega
    ·rw[h1] at hb
     refine q8 5 7 rfl Tryz.func186 rfl (by simp[Tryz.ntmps186]) (by kernel_rfl) (by kernel_rfl) ?_
     simp (maxSteps:=4000000) [-getElem?_pos,-qb,hwq,hf]
     refine qg [6] _ (k:=?_)
     repeat (first|refine qe _ (hs:=by simp (maxSteps:=4000000) [-getElem?_pos,hb];exact rfl) (k:=?_)|refine qf _ (k:=?_))
     refine qc ?_
     simp (maxSteps:=4000000) [-getElem?_pos,hb,hLl,hm,hm0]
   ·rw[if_neg hr]
    have hr':rp.length<200:=by omega
    have hR:=qeg b sh rp.length hr'
    have hx:slN 57 4 ((rp++[((a,b0),c,d)]).map rpF)=.sl (.ex 57 4) (L++[.agg [.str a,.str b0,.str c,.str d]]):=by rw[List.map_append,hL];exact qdc _ _ _ _
    have lwL:lowL σ.length L:=by rw[← hL];simp
    have lwx:low σ.length (.agg [.str a,.str b0,.str c,.str d]):=by simp[low,lowL]
    have hR0:rp.length=0→∀σ,ev 237 [.gp b 0 sh,.int .i64 0] σ=some (.tup [],σ):=fun h=>by rw[h] at hR;exact hR
    by_cases he:E=0
    ·rw[if_pos he]
     simp only[hA1,hA2,hA4,hx]
     show ev _ _ _=_
     have hm:=qbi b sh
     have hac:allCells 4 [.agg [.str a,.str b0,.str c,.str d]]:=by simp[allCells,AV.cells]
     have hlm:L.length+1≤most:=by unfold most;omega
     have h1m:1≤most:=by unfold most;omega
     have hsa:=fun x J=>qcl hbl x J
     have hsa2:=fun y x J=>qde hbl y x J
     have hg2:∀(c:List AV) (J:List (List AV)),(σ.set b c++J)[b]? = some c:=fun c J=>qw (hg c) J
     subst he
     rcases qab 57 4 L with ⟨h0,h1⟩|h1
     ·subst h0
      replace hR0:=hR0 (by simpa using hLl.symm)
      rw[h1] at hb
      have hga:=fun J=>qw hb J
      refine qd rfl Tryz.func186 rfl (by simp[Tryz.ntmps186]) (by kernel_rfl) (by kernel_rfl) ?_
      simp (maxSteps:=4000000) [-getElem?_pos,-qb,hwq,hf]
      refine qg [6] _ (k:=?_)
      repeat (first|refine qe _ (hs:=by simp (maxSteps:=4000000) [-getElem?_pos,hb];exact rfl) (k:=?_)|refine qf _ (k:=?_))
      refine qc ?_
      simp (maxSteps:=4000000) [-getElem?_pos,-qb,hb,hR0]
      refine qg [] _ (k:=?_)
      repeat (first|refine qe _ (hs:=by simp (maxSteps:=4000000) [-getElem?_pos,hb,hW,h2,hE,hm,hP,hOP,hCF];exact rfl) (k:=?_)|refine qf _ (k:=?_))
      refine qc ?_
      simp (maxSteps:=4000000) [-getElem?_pos,-qb]
      refine qg [] _ (k:=?_)
      repeat (first|refine qe _ (hs:=by simp (maxSteps:=4000000) [-getElem?_pos,hb,hga,hg,hsa,hg2,hac,hall,hlm,h1m];exact rfl) (k:=?_)|refine qf _ (k:=?_))
      refine qc ?_
      simp (maxSteps:=4000000) [-getElem?_pos,hsa,hsa2,hg2,hg,take_app,Tryz.results186]
      all_goals rw[ql (qa3 _ _ (by simp[low,lowL,lw1,lw2,lw4,lwL]))]
     ·rw[h1] at hb
      have hga:=fun J=>qw hb J
      refine qd rfl Tryz.func186 rfl (by simp[Tryz.ntmps186]) (by kernel_rfl) (by kernel_rfl) ?_
      simp (maxSteps:=4000000) [-getElem?_pos,-qb,hwq,hf]
      refine qg [6] _ (k:=?_)
      repeat (first|refine qe _ (hs:=by simp (maxSteps:=4000000) [-getElem?_pos,hb];exact rfl) (k:=?_)|refine qf _ (k:=?_))
      refine qc ?_
      simp (maxSteps:=4000000) [-getElem?_pos,-qb,hb,hLl,hR]
      refine qg [] _ (k:=?_)
      repeat (first|refine qe _ (hs:=by simp (maxSteps:=4000000) [-getElem?_pos,hb,hW,h2,hE,hm,hP,hOP,hCF];exact rfl) (k:=?_)|refine qf _ (k:=?_))
      refine qc ?_
      simp (maxSteps:=4000000) [-getElem?_pos,-qb]
      refine qg [] _ (k:=?_)
      repeat (first|refine qe _ (hs:=by simp (maxSteps:=4000000) [-getElem?_pos,hb,hga,hg,hsa,hg2,hac,hall,hlm,h1m];exact rfl) (k:=?_)|refine qf _ (k:=?_))
      refine qc ?_
      simp (maxSteps:=4000000) [-getElem?_pos,hsa,hsa2,hg2,hg,take_app,Tryz.results186]
      all_goals rw[ql (qa3 _ _ (by simp[low,lowL,lw1,lw2,lw4,lwL]))]
    ·rw[if_neg he]
     show pc _ _ _ _
     have hm:=fun J=>qaa b sh (σ++J) _ line _ (qw hb J) rfl he
     have hm0:=qaa b sh σ _ line _ hb rfl he
     rcases qab 57 4 L with ⟨h0,h1⟩|h1
     ·subst h0
      replace hR0:=hR0 (by simpa using hLl.symm)
      rw[h1] at hb
      refine q8 6 14 rfl Tryz.func186 rfl (by simp[Tryz.ntmps186]) (by kernel_rfl) (by kernel_rfl) ?_
      simp (maxSteps:=4000000) [-getElem?_pos,-qb,hwq,hf]
      refine qg [6] _ (k:=?_)
      repeat (first|refine qe _ (hs:=by simp (maxSteps:=4000000) [-getElem?_pos,hb];exact rfl) (k:=?_)|refine qf _ (k:=?_))
      refine qc ?_
      simp (maxSteps:=4000000) [-getElem?_pos,-qb,hb,hR0]
      refine qai [] _ _ (by kernel_rfl) (by rfl) (by rfl) (by simp (maxSteps:=4000000) [];exact rfl) (by simp only[List.length_cons,List.length_nil,Nat.reduceAdd,Nat.reduceSub,List.take_succ_cons,List.take_zero];exact rfl) ?_
      repeat (first|refine qe _ (hs:=by simp (maxSteps:=4000000) [-getElem?_pos,hb,hW,h2,hE,hP,hOP,hCF];exact rfl) (k:=?_)|refine qf _ (k:=?_))
      refine qc ?_
      simp (maxSteps:=4000000) [hm,hm0]
     ·rw[h1] at hb
      refine q8 6 14 rfl Tryz.func186 rfl (by simp[Tryz.ntmps186]) (by kernel_rfl) (by kernel_rfl) ?_
      simp (maxSteps:=4000000) [-getElem?_pos,-qb,hwq,hf]
      refine qg [6] _ (k:=?_)
      repeat (first|refine qe _ (hs:=by simp (maxSteps:=4000000) [-getElem?_pos,hb];exact rfl) (k:=?_)|refine qf _ (k:=?_))
      refine qc ?_
      simp (maxSteps:=4000000) [-getElem?_pos,-qb,hb,hLl,hR]
      refine qai [] _ _ (by kernel_rfl) (by rfl) (by rfl) (by simp (maxSteps:=4000000) [];exact rfl) (by simp only[List.length_cons,List.length_nil,Nat.reduceAdd,Nat.reduceSub,List.take_succ_cons,List.take_zero];exact rfl) ?_
      repeat (first|refine qe _ (hs:=by simp (maxSteps:=4000000) [-getElem?_pos,hb,hW,h2,hE,hP,hOP,hCF];exact rfl) (k:=?_)|refine qf _ (k:=?_))
      refine qc ?_
      simp (maxSteps:=4000000) [hm,hm0]
 | some ws =>
  obtain⟨a,c,d,rfl⟩:=qyq hw (by decide)
  rw[hw] at hwq
  simp only[wordsAV,Option.getD_some,Option.isSome_some,List.map_cons,List.map_nil] at hwq
  have hW0:rpW l=some ((a,[]),c,d):=by unfold rpW;rw[hw]
  unfold rpP
  rw[hW0]
  have ha:=qp hl hw (s:=a) (by simp)
  have hb0:([]:List UInt8).length≤2^28:=by simp
  have hc:=qp hl hw (s:=c) (by simp)
  have hd:=qp hl hw (s:=d) (by simp)
  have hP:=fun σ=>qbv ((a,[]),c,d) ⟨by simp only;omega,by simp only[List.length_nil];omega⟩ ⟨by simp only;omega,by simp only;omega⟩ σ
  have hOP:=fun σ=>qee ((a,[]),c,d) σ
  simp only[rpFx] at hP hOP
  obtain⟨pp,hpp⟩:∃e:Int,rpE ((a,[]),c,d)=e:=⟨_,rfl⟩
  rw[hpp] at hP
  simp only[hpp,stE]
  obtain⟨⟨m,g,rq,ex,rp,rt⟩,line,blk,ind,md⟩:=p
  simp only[psC] at hb hlq ⊢
  obtain⟨A1,hA1⟩:∃A,slN 49 3 (rq.map rqF)=A:=⟨_,rfl⟩
  rw[hA1] at hb
  have lw1:low σ.length A1:=by rw[← hA1];exact qad _ _ (by simp)
  obtain⟨A2,hA2⟩:∃A,slN 55 2 (ex.map modA)=A:=⟨_,rfl⟩
  rw[hA2] at hb
  have lw2:low σ.length A2:=by rw[← hA2];exact qad _ _ (by simp)
  obtain⟨A4,hA4⟩:∃A,slN 53 2 (rt.map rtF)=A:=⟨_,rfl⟩
  rw[hA4] at hb
  have lw4:low σ.length A4:=by rw[← hA4];exact qad _ _ (by simp)
  have hCF:=fun (S:List (List AV))=>qbh rp (by omega) 156 (by decide) [.gp S.length 0 (some (55,2))] (by simp[args,arg,dem]) (fun x=>isM (a,[]) x.1) (S++[[.str a,.str []]]) (fun y _=>qf0 (a,[]) _ _ y _ (by simp))
  obtain⟨t,ht⟩:∃t,(rp.any fun x=>isM (a,[]) x.1)=t:=⟨_,rfl⟩
  simp only[ht] at hCF ⊢
  obtain⟨E,hE⟩:∃E,fstE [pp,if t=true then 12 else 0]=E:=⟨_,rfl⟩
  rw[hE]
  obtain⟨L,hL⟩:∃L,rp.map rpF=L:=⟨_,rfl⟩
  have hLl:L.length=rp.length:=by rw[← hL];simp
  have hall:allCells 4 L:=by rw[← hL];simp
  rw[hL] at hb hCF
  by_cases hr:200≤rp.length
  ·rw[if_pos hr]
   show pc _ _ _ _
   have hm:=fun J=>qa2 b sh rp.length hr (σ++J) _ line (qw hb J) rfl
   have hm0:=qa2 b sh rp.length hr σ _ line hb rfl
   rcases qab 57 4 L with ⟨h0,h1⟩|h1
   ·rw[h0] at hLl;simp at hLl;omega
   ·rw[h1] at hb
    refine q8 5 7 rfl Tryz.func186 rfl (by simp[Tryz.ntmps186]) (by kernel_rfl) (by kernel_rfl) ?_
    simp (maxSteps:=4000000) [-getElem?_pos,-qb,hwq]
    refine qg [] _ (k:=?_)
    repeat (first|refine qe _ (hs:=by simp (maxSteps:=4000000) [-getElem?_pos];exact rfl) (k:=?_)|refine qf _ (k:=?_))
    refine qc ?_
    simp (maxSteps:=4000000) [-getElem?_pos,-qb]
    refine qg [6] _ (k:=?_)
    repeat (first|refine qe _ (hs:=by simp (maxSteps:=4000000) [-getElem?_pos,hb];exact rfl) (k:=?_)|refine qf _ (k:=?_))
    refine qc ?_
    simp (maxSteps:=4000000) [-getElem?_pos,hb,hLl,hm,hm0]
  ·rw[if_neg hr]
   have hr':rp.length<200:=by omega
   have hR:=qeg b sh rp.length hr'
   have hx:slN 57 4 ((rp++[((a,[]),c,d)]).map rpF)=.sl (.ex 57 4) (L++[.agg [.str a,.str [],.str c,.str d]]):=by rw[List.map_append,hL];exact qdc _ _ _ _
   have lwL:lowL σ.length L:=by rw[← hL];simp
   have lwx:low σ.length (.agg [.str a,.str [],.str c,.str d]):=by simp[low,lowL]
   have hR0:rp.length=0→∀σ,ev 237 [.gp b 0 sh,.int .i64 0] σ=some (.tup [],σ):=fun h=>by rw[h] at hR;exact hR
   by_cases he:E=0
   ·rw[if_pos he]
    simp only[hA1,hA2,hA4,hx]
    show ev _ _ _=_
    have hm:=qbi b sh
    have hac:allCells 4 [.agg [.str a,.str [],.str c,.str d]]:=by simp[allCells,AV.cells]
    have hlm:L.length+1≤most:=by unfold most;omega
    have h1m:1≤most:=by unfold most;omega
    have hsa:=fun x J=>qcl hbl x J
    have hsa2:=fun y x J=>qde hbl y x J
    have hg2:∀(c:List AV) (J:List (List AV)),(σ.set b c++J)[b]? = some c:=fun c J=>qw (hg c) J
    subst he
    rcases qab 57 4 L with ⟨h0,h1⟩|h1
    ·subst h0
     replace hR0:=hR0 (by simpa using hLl.symm)
     rw[h1] at hb
     have hga:=fun J=>qw hb J
     refine qd rfl Tryz.func186 rfl (by simp[Tryz.ntmps186]) (by kernel_rfl) (by kernel_rfl) ?_
     simp (maxSteps:=4000000) [-getElem?_pos,-qb,hwq]
     refine qg [] _ (k:=?_)
     repeat (first|refine qe _ (hs:=by simp (maxSteps:=4000000) [-getElem?_pos];exact rfl) (k:=?_)|refine qf _ (k:=?_))
     refine qc ?_
     simp (maxSteps:=4000000) [-getElem?_pos,-qb]
     refine qg [6] _ (k:=?_)
     repeat (first|refine qe _ (hs:=by simp (maxSteps:=4000000) [-getElem?_pos,hb];exact rfl) (k:=?_)|refine qf _ (k:=?_))
     refine qc ?_
     simp (maxSteps:=4000000) [-getElem?_pos,-qb,hb,hR0]
     refine qg [] _ (k:=?_)
     repeat (first|refine qe _ (hs:=by simp (maxSteps:=4000000) [-getElem?_pos,hb,hW,h2,hE,hm,hP,hOP,hCF];exact rfl) (k:=?_)|refine qf _ (k:=?_))
     refine qc ?_
     simp (maxSteps:=4000000) [-getElem?_pos,-qb]
     refine qg [] _ (k:=?_)
     repeat (first|refine qe _ (hs:=by simp (maxSteps:=4000000) [-getElem?_pos,hb,hga,hg,hsa,hg2,hac,hall,hlm,h1m];exact rfl) (k:=?_)|refine qf _ (k:=?_))
     refine qc ?_
     simp (maxSteps:=4000000) [-getElem?_pos,hsa,hsa2,hg2,hg,take_app,Tryz.results186]
     all_goals rw[ql (qa3 _ _ (by simp[low,lowL,lw1,lw2,lw4,lwL]))]
    ·rw[h1] at hb
     have hga:=fun J=>qw hb J
     refine qd rfl Tryz.func186 rfl (by simp[Tryz.ntmps186]) (by kernel_rfl) (by kernel_rfl) ?_
     simp (maxSteps:=4000000) [-getElem?_pos,-qb,hwq]
     refine qg [] _ (k:=?_)
     repeat (first|refine qe _ (hs:=by simp (maxSteps:=4000000) [-getElem?_pos];exact rfl) (k:=?_)|refine qf _ (k:=?_))
     refine qc ?_
     simp (maxSteps:=4000000) [-getElem?_pos,-qb]
     refine qg [6] _ (k:=?_)
     repeat (first|refine qe _ (hs:=by simp (maxSteps:=4000000) [-getElem?_pos,hb];exact rfl) (k:=?_)|refine qf _ (k:=?_))
     refine qc ?_
     simp (maxSteps:=4000000) [-getElem?_pos,-qb,hb,hLl,hR]
     refine qg [] _ (k:=?_)
     repeat (first|refine qe _ (hs:=by simp (maxSteps:=4000000) [-getElem?_pos,hb,hW,h2,hE,hm,hP,hOP,hCF];exact rfl) (k:=?_)|refine qf _ (k:=?_))
     refine qc ?_
     simp (maxSteps:=4000000) [-getElem?_pos,-qb]
     refine qg [] _ (k:=?_)
     repeat (first|refine qe _ (hs:=by simp (maxSteps:=4000000) [-getElem?_pos,hb,hga,hg,hsa,hg2,hac,hall,hlm,h1m];exact rfl) (k:=?_)|refine qf _ (k:=?_))
     refine qc ?_
     simp (maxSteps:=4000000) [-getElem?_pos,hsa,hsa2,hg2,hg,take_app,Tryz.results186]
     all_goals rw[ql (qa3 _ _ (by simp[low,lowL,lw1,lw2,lw4,lwL]))]
   ·rw[if_neg he]
    show pc _ _ _ _
    have hm:=fun J=>qaa b sh (σ++J) _ line _ (qw hb J) rfl he
    have hm0:=qaa b sh σ _ line _ hb rfl he
    rcases qab 57 4 L with ⟨h0,h1⟩|h1
    ·subst h0
     replace hR0:=hR0 (by simpa using hLl.symm)
     rw[h1] at hb
     refine q8 6 14 rfl Tryz.func186 rfl (by simp[Tryz.ntmps186]) (by kernel_rfl) (by kernel_rfl) ?_
     simp (maxSteps:=4000000) [-getElem?_pos,-qb,hwq]
     refine qg [] _ (k:=?_)
     repeat (first|refine qe _ (hs:=by simp (maxSteps:=4000000) [-getElem?_pos];exact rfl) (k:=?_)|refine qf _ (k:=?_))
     refine qc ?_
     simp (maxSteps:=4000000) [-getElem?_pos,-qb]
     refine qg [6] _ (k:=?_)
     repeat (first|refine qe _ (hs:=by simp (maxSteps:=4000000) [-getElem?_pos,hb];exact rfl) (k:=?_)|refine qf _ (k:=?_))
     refine qc ?_
     simp (maxSteps:=4000000) [-getElem?_pos,-qb,hb,hR0]
     refine qai [] _ _ (by kernel_rfl) (by rfl) (by rfl) (by simp (maxSteps:=4000000) [];exact rfl) (by simp only[List.length_cons,List.length_nil,Nat.reduceAdd,Nat.reduceSub,List.take_succ_cons,List.take_zero];exact rfl) ?_
     repeat (first|refine qe _ (hs:=by simp (maxSteps:=4000000) [-getElem?_pos,hb,hW,h2,hE,hP,hOP,hCF];exact rfl) (k:=?_)|refine qf _ (k:=?_))
     refine qc ?_
     simp (maxSteps:=4000000) [hm,hm0]
    ·rw[h1] at hb
     refine q8 6 14 rfl Tryz.func186 rfl (by simp[Tryz.ntmps186]) (by kernel_rfl) (by kernel_rfl) ?_
     simp (maxSteps:=4000000) [-getElem?_pos,-qb,hwq]
     refine qg [] _ (k:=?_)
     repeat (first|refine qe _ (hs:=by simp (maxSteps:=4000000) [-getElem?_pos];exact rfl) (k:=?_)|refine qf _ (k:=?_))
     refine qc ?_
     simp (maxSteps:=4000000) [-getElem?_pos,-qb]
     refine qg [6] _ (k:=?_)
     repeat (first|refine qe _ (hs:=by simp (maxSteps:=4000000) [-getElem?_pos,hb];exact rfl) (k:=?_)|refine qf _ (k:=?_))
     refine qc ?_
     simp (maxSteps:=4000000) [-getElem?_pos,-qb,hb,hLl,hR]
     refine qai [] _ _ (by kernel_rfl) (by rfl) (by rfl) (by simp (maxSteps:=4000000) [];exact rfl) (by simp only[List.length_cons,List.length_nil,Nat.reduceAdd,Nat.reduceSub,List.take_succ_cons,List.take_zero];exact rfl) ?_
     repeat (first|refine qe _ (hs:=by simp (maxSteps:=4000000) [-getElem?_pos,hb,hW,h2,hE,hP,hOP,hCF];exact rfl) (k:=?_)|refine qf _ (k:=?_))
     refine qc ?_
     simp (maxSteps:=4000000) [hm,hm0]
end Go.Proofs.Tryz.Ai
end
section
namespace Go.Proofs.Tryz.Ai
open Go Go.AI Go.Proofs
set_option maxHeartbeats 8000000
set_option maxRecDepth 4000
set_option linter.unusedVariables false
def rtW (l:List Tok):Option Rt:=match wordsB l [119] with
 | some [a]=>some (a,a)
 | _=>match wordsB l [91,119,44,119,93] with
  | some [a,b]=>some (a,b)
  | _=>none
def rtP (p:Ps) (l:List Tok):Except Int Ps:=match rtW l with
 | some r=>if 200≤p.f.rt.length then .error 14 else stE (fstE [rtE r,if p.f.rt.any (r==·) then 12 else 0]) {p with f:={p.f with rt:=p.f.rt++[r]}}
 | none=>.error 11
theorem qgo:StOk 187 rtP:=by
 intro b sh p l σ hp hl hb
 have hbl:=(List.getElem?_eq_some_iff.1 hb).1
 have hg:=fun c=>qbj hbl c
 have hwq:=qdb l (by have:=hl.1;omega) [119] (by simp)
 have hW:=fun b e=>qaw b e
 have h2:=fun a b=>qam [a,b] (by simp)
 have hlq:=hp.lt
 simp only[List.map_cons,List.map_nil] at h2
 cases hw:wordsB l [119] with
 | none =>
  rw[hw] at hwq
  simp only[wordsAV,Option.getD_none,Option.isSome_none,List.map_nil] at hwq
  cases hw2:wordsB l [91,119,44,119,93] with
  | none =>
   have hW0:rtW l=none:=by unfold rtW;rw[hw,hw2]
   have h1:=form_pan b sh l (by have:=hl.1;omega) [91,119,44,119,93] (by simp) hw2 σ _ p.line hb rfl
   unfold rtP
   rw[hW0]
   show pc _ _ _ _
   refine q8 3 2 rfl Tryz.func187 rfl (by simp[Tryz.ntmps187]) (by kernel_rfl) (by kernel_rfl) ?_
   simp (maxSteps:=4000000) [-getElem?_pos,hwq,h1]
  | some ws =>
   obtain⟨a,b0,rfl⟩:=qpv hw2 (by decide)
   have hf:=form_ok b sh l (by have:=hl.1;omega) [91,119,44,119,93] (by simp) _ hw2
   simp only[List.map_cons,List.map_nil] at hf
   have hW0:rtW l=some (a,b0):=by unfold rtW;rw[hw,hw2]
   unfold rtP
   rw[hW0]
   have ha:=qp hl hw2 (s:=a) (by simp)
   have hb0:=qp hl hw2 (s:=b0) (by simp)
   have hP:=fun σ=>qbw (a,b0) ⟨by simp only;omega,by simp only;omega⟩ σ
   have hCF:=fun σ=>qem p.f.rt (by omega) (a,b0) σ
   simp only[rtFx (a,b0)] at hP hCF
   obtain⟨pp,hpp⟩:∃e:Int,rtE (a,b0)=e:=⟨_,rfl⟩
   rw[hpp] at hP
   simp only[hpp,stE]
   obtain⟨⟨m,g,rq,ex,rp,rt⟩,line,blk,ind,md⟩:=p
   simp only[psC] at hb hlq hCF ⊢
   obtain⟨A1,hA1⟩:∃A,slN 49 3 (rq.map rqF)=A:=⟨_,rfl⟩
   rw[hA1] at hb
   have lw1:low σ.length A1:=by rw[← hA1];exact qad _ _ (by simp)
   obtain⟨A2,hA2⟩:∃A,slN 55 2 (ex.map modA)=A:=⟨_,rfl⟩
   rw[hA2] at hb
   have lw2:low σ.length A2:=by rw[← hA2];exact qad _ _ (by simp)
   obtain⟨A3,hA3⟩:∃A,slN 57 4 (rp.map rpF)=A:=⟨_,rfl⟩
   rw[hA3] at hb
   have lw3:low σ.length A3:=by rw[← hA3];exact qad _ _ (by simp)
   obtain⟨t,ht⟩:∃t,rt.any ((a,b0)==·)=t:=⟨_,rfl⟩
   simp only[ht] at hCF ⊢
   obtain⟨E,hE⟩:∃E,fstE [pp,if t=true then 12 else 0]=E:=⟨_,rfl⟩
   rw[hE]
   obtain⟨L,hL⟩:∃L,rt.map rtF=L:=⟨_,rfl⟩
   have hLl:L.length=rt.length:=by rw[← hL];simp
   have hall:allCells 2 L:=by rw[← hL];simp
   rw[hL] at hb hCF
   by_cases hr:200≤rt.length
   ·rw[if_pos hr]
    show pc _ _ _ _
    have hm:=fun J=>qa2 b sh rt.length hr (σ++J) _ line (qw hb J) rfl
    have hm0:=qa2 b sh rt.length hr σ _ line hb rfl
    rcases qab 53 2 L with ⟨h0,h1⟩|h1
    ·rw[h0] at hLl;simp at hLl;omega
    ·rw[h1] at hb
     refine q8 5 7 rfl Tryz.func187 rfl (by simp[Tryz.ntmps187]) (by kernel_rfl) (by kernel_rfl) ?_
     simp (maxSteps:=4000000) [-getElem?_pos,-qb,hwq,hf]
     refine qg [6] _ (k:=?_)
     repeat (first|refine qe _ (hs:=by simp (maxSteps:=4000000) [-getElem?_pos,hb];exact rfl) (k:=?_)|refine qf _ (k:=?_))
     refine qc ?_
     simp (maxSteps:=4000000) [-getElem?_pos,hb,hLl,hm,hm0]
   ·rw[if_neg hr]
    have hr':rt.length<200:=by omega
    have hR:=qeg b sh rt.length hr'
    have hx:slN 53 2 ((rt++[(a,b0)]).map rtF)=.sl (.ex 53 2) (L++[.agg [.str a,.str b0]]):=by rw[List.map_append,hL];exact qdc _ _ _ _
    have lwL:lowL σ.length L:=by rw[← hL];simp
    have lwx:low σ.length (.agg [.str a,.str b0]):=by simp[low,lowL]
    have hR0:rt.length=0→∀σ,ev 237 [.gp b 0 sh,.int .i64 0] σ=some (.tup [],σ):=fun h=>by rw[h] at hR;exact hR
    by_cases he:E=0
    ·rw[if_pos he]
     simp only[hA1,hA2,hA3,hx]
     show ev _ _ _=_
     have hm:=qbi b sh
     have hac:allCells 2 [.agg [.str a,.str b0]]:=by simp[allCells,AV.cells]
     have hlm:L.length+1≤most:=by unfold most;omega
     have h1m:1≤most:=by unfold most;omega
     have hsa:=fun x J=>qcl hbl x J
     have hsa2:=fun y x J=>qde hbl y x J
     have hg2:∀(c:List AV) (J:List (List AV)),(σ.set b c++J)[b]? = some c:=fun c J=>qw (hg c) J
     subst he
     rcases qab 53 2 L with ⟨h0,h1⟩|h1
     ·subst h0
      replace hR0:=hR0 (by simpa using hLl.symm)
      rw[h1] at hb
      have hga:=fun J=>qw hb J
      refine qd rfl Tryz.func187 rfl (by simp[Tryz.ntmps187]) (by kernel_rfl) (by kernel_rfl) ?_
      simp (maxSteps:=4000000) [-getElem?_pos,-qb,hwq,hf]
      refine qg [6] _ (k:=?_)
      repeat (first|refine qe _ (hs:=by simp (maxSteps:=4000000) [-getElem?_pos,hb];exact rfl) (k:=?_)|refine qf _ (k:=?_))
      refine qc ?_
      simp (maxSteps:=4000000) [-getElem?_pos,-qb,hb,hR0]
      refine qg [] _ (k:=?_)
      repeat (first|refine qe _ (hs:=by simp (maxSteps:=4000000) [-getElem?_pos,hb,hW,h2,hE,hm,hP,hCF];exact rfl) (k:=?_)|refine qf _ (k:=?_))
      refine qc ?_
      simp (maxSteps:=4000000) [-getElem?_pos,-qb]
      refine qg [] _ (k:=?_)
      repeat (first|refine qe _ (hs:=by simp (maxSteps:=4000000) [-getElem?_pos,hb,hga,hg,hsa,hg2,hac,hall,hlm,h1m];exact rfl) (k:=?_)|refine qf _ (k:=?_))
      refine qc ?_
      simp (maxSteps:=4000000) [-getElem?_pos,hsa,hsa2,hg2,hg,take_app,Tryz.results187]
      all_goals rw[ql (qa3 _ _ (by simp[low,lowL,lw1,lw2,lw3,lwL]))]
     ·rw[h1] at hb
      have hga:=fun J=>qw hb J
      refine qd rfl Tryz.func187 rfl (by simp[Tryz.ntmps187]) (by kernel_rfl) (by kernel_rfl) ?_
      simp (maxSteps:=4000000) [-getElem?_pos,-qb,hwq,hf]
      refine qg [6] _ (k:=?_)
      repeat (first|refine qe _ (hs:=by simp (maxSteps:=4000000) [-getElem?_pos,hb];exact rfl) (k:=?_)|refine qf _ (k:=?_))
      refine qc ?_
      simp (maxSteps:=4000000) [-getElem?_pos,-qb,hb,hLl,hR]
      refine qg [] _ (k:=?_)
      repeat (first|refine qe _ (hs:=by simp (maxSteps:=4000000) [-getElem?_pos,hb,hW,h2,hE,hm,hP,hCF];exact rfl) (k:=?_)|refine qf _ (k:=?_))
      refine qc ?_
      simp (maxSteps:=4000000) [-getElem?_pos,-qb]
      refine qg [] _ (k:=?_)
      repeat (first|refine qe _ (hs:=by simp (maxSteps:=4000000) [-getElem?_pos,hb,hga,hg,hsa,hg2,hac,hall,hlm,h1m];exact rfl) (k:=?_)|refine qf _ (k:=?_))
      refine qc ?_
      simp (maxSteps:=4000000) [-getElem?_pos,hsa,hsa2,hg2,hg,take_app,Tryz.results187]
      all_goals rw[ql (qa3 _ _ (by simp[low,lowL,lw1,lw2,lw3,lwL]))]
    ·rw[if_neg he]
     show pc _ _ _ _
     have hm:=fun J=>qaa b sh (σ++J) _ line _ (qw hb J) rfl he
     have hm0:=qaa b sh σ _ line _ hb rfl he
     rcases qab 53 2 L with ⟨h0,h1⟩|h1
     ·subst h0
      replace hR0:=hR0 (by simpa using hLl.symm)
      rw[h1] at hb
      refine q8 6 13 rfl Tryz.func187 rfl (by simp[Tryz.ntmps187]) (by kernel_rfl) (by kernel_rfl) ?_
      simp (maxSteps:=4000000) [-getElem?_pos,-qb,hwq,hf]
      refine qg [6] _ (k:=?_)
      repeat (first|refine qe _ (hs:=by simp (maxSteps:=4000000) [-getElem?_pos,hb];exact rfl) (k:=?_)|refine qf _ (k:=?_))
      refine qc ?_
      simp (maxSteps:=4000000) [-getElem?_pos,-qb,hb,hR0]
      refine qai [] _ _ (by kernel_rfl) (by rfl) (by rfl) (by simp (maxSteps:=4000000) [];exact rfl) (by simp only[List.length_cons,List.length_nil,Nat.reduceAdd,Nat.reduceSub,List.take_succ_cons,List.take_zero];exact rfl) ?_
      repeat (first|refine qe _ (hs:=by simp (maxSteps:=4000000) [-getElem?_pos,hb,hW,h2,hE,hP,hCF];exact rfl) (k:=?_)|refine qf _ (k:=?_))
      refine qc ?_
      simp (maxSteps:=4000000) [hm,hm0]
     ·rw[h1] at hb
      refine q8 6 13 rfl Tryz.func187 rfl (by simp[Tryz.ntmps187]) (by kernel_rfl) (by kernel_rfl) ?_
      simp (maxSteps:=4000000) [-getElem?_pos,-qb,hwq,hf]
      refine qg [6] _ (k:=?_)
      repeat (first|refine qe _ (hs:=by simp (maxSteps:=4000000) [-getElem?_pos,hb];exact rfl) (k:=?_)|refine qf _ (k:=?_))
      refine qc ?_
      simp (maxSteps:=4000000) [-getElem?_pos,-qb,hb,hLl,hR]
      refine qai [] _ _ (by kernel_rfl) (by rfl) (by rfl) (by simp (maxSteps:=4000000) [];exact rfl) (by simp only[List.length_cons,List.length_nil,Nat.reduceAdd,Nat.reduceSub,List.take_succ_cons,List.take_zero];exact rfl) ?_
      repeat (first|refine qe _ (hs:=by simp (maxSteps:=4000000) [-getElem?_pos,hb,hW,h2,hE,hP,hCF];exact rfl) (k:=?_)|refine qf _ (k:=?_))
      refine qc ?_
      simp (maxSteps:=4000000) [hm,hm0]
 | some ws =>
  obtain⟨a,rfl⟩:=qpu hw (by decide)
  rw[hw] at hwq
  simp only[wordsAV,Option.getD_some,Option.isSome_some,List.map_cons,List.map_nil] at hwq
  have hW0:rtW l=some (a,a):=by unfold rtW;rw[hw]
  unfold rtP
  rw[hW0]
  have ha:=qp hl hw (s:=a) (by simp)
  have hP:=fun σ=>qbw (a,a) ⟨by simp only;omega,by simp only;omega⟩ σ
  have hCF:=fun σ=>qem p.f.rt (by omega) (a,a) σ
  simp only[rtFx (a,a)] at hP hCF
  obtain⟨pp,hpp⟩:∃e:Int,rtE (a,a)=e:=⟨_,rfl⟩
  rw[hpp] at hP
  simp only[hpp,stE]
  obtain⟨⟨m,g,rq,ex,rp,rt⟩,line,blk,ind,md⟩:=p
  simp only[psC] at hb hlq hCF ⊢
  obtain⟨A1,hA1⟩:∃A,slN 49 3 (rq.map rqF)=A:=⟨_,rfl⟩
  rw[hA1] at hb
  have lw1:low σ.length A1:=by rw[← hA1];exact qad _ _ (by simp)
  obtain⟨A2,hA2⟩:∃A,slN 55 2 (ex.map modA)=A:=⟨_,rfl⟩
  rw[hA2] at hb
  have lw2:low σ.length A2:=by rw[← hA2];exact qad _ _ (by simp)
  obtain⟨A3,hA3⟩:∃A,slN 57 4 (rp.map rpF)=A:=⟨_,rfl⟩
  rw[hA3] at hb
  have lw3:low σ.length A3:=by rw[← hA3];exact qad _ _ (by simp)
  obtain⟨t,ht⟩:∃t,rt.any ((a,a)==·)=t:=⟨_,rfl⟩
  simp only[ht] at hCF ⊢
  obtain⟨E,hE⟩:∃E,fstE [pp,if t=true then 12 else 0]=E:=⟨_,rfl⟩
  rw[hE]
  obtain⟨L,hL⟩:∃L,rt.map rtF=L:=⟨_,rfl⟩
  have hLl:L.length=rt.length:=by rw[← hL];simp
  have hall:allCells 2 L:=by rw[← hL];simp
  rw[hL] at hb hCF
  by_cases hr:200≤rt.length
  ·rw[if_pos hr]
   show pc _ _ _ _
   have hm:=fun J=>qa2 b sh rt.length hr (σ++J) _ line (qw hb J) rfl
   have hm0:=qa2 b sh rt.length hr σ _ line hb rfl
   rcases qab 53 2 L with ⟨h0,h1⟩|h1
   ·rw[h0] at hLl;simp at hLl;omega
   ·rw[h1] at hb
    refine q8 5 7 rfl Tryz.func187 rfl (by simp[Tryz.ntmps187]) (by kernel_rfl) (by kernel_rfl) ?_
    simp (maxSteps:=4000000) [-getElem?_pos,-qb,hwq]
    refine qg [] _ (k:=?_)
    repeat (first|refine qe _ (hs:=by simp (maxSteps:=4000000) [-getElem?_pos];exact rfl) (k:=?_)|refine qf _ (k:=?_))
    refine qc ?_
    simp (maxSteps:=4000000) [-getElem?_pos,-qb]
    refine qg [6] _ (k:=?_)
    repeat (first|refine qe _ (hs:=by simp (maxSteps:=4000000) [-getElem?_pos,hb];exact rfl) (k:=?_)|refine qf _ (k:=?_))
    refine qc ?_
    simp (maxSteps:=4000000) [-getElem?_pos,hb,hLl,hm,hm0]
  ·rw[if_neg hr]
   have hr':rt.length<200:=by omega
   have hR:=qeg b sh rt.length hr'
   have hx:slN 53 2 ((rt++[(a,a)]).map rtF)=.sl (.ex 53 2) (L++[.agg [.str a,.str a]]):=by rw[List.map_append,hL];exact qdc _ _ _ _
   have lwL:lowL σ.length L:=by rw[← hL];simp
   have lwx:low σ.length (.agg [.str a,.str a]):=by simp[low,lowL]
   have hR0:rt.length=0→∀σ,ev 237 [.gp b 0 sh,.int .i64 0] σ=some (.tup [],σ):=fun h=>by rw[h] at hR;exact hR
   by_cases he:E=0
   ·rw[if_pos he]
    simp only[hA1,hA2,hA3,hx]
    show ev _ _ _=_
    have hm:=qbi b sh
    have hac:allCells 2 [.agg [.str a,.str a]]:=by simp[allCells,AV.cells]
    have hlm:L.length+1≤most:=by unfold most;omega
    have h1m:1≤most:=by unfold most;omega
    have hsa:=fun x J=>qcl hbl x J
    have hsa2:=fun y x J=>qde hbl y x J
    have hg2:∀(c:List AV) (J:List (List AV)),(σ.set b c++J)[b]? = some c:=fun c J=>qw (hg c) J
    subst he
    rcases qab 53 2 L with ⟨h0,h1⟩|h1
    ·subst h0
     replace hR0:=hR0 (by simpa using hLl.symm)
     rw[h1] at hb
     have hga:=fun J=>qw hb J
     refine qd rfl Tryz.func187 rfl (by simp[Tryz.ntmps187]) (by kernel_rfl) (by kernel_rfl) ?_
     simp (maxSteps:=4000000) [-getElem?_pos,-qb,hwq]
     refine qg [] _ (k:=?_)
     repeat (first|refine qe _ (hs:=by simp (maxSteps:=4000000) [-getElem?_pos];exact rfl) (k:=?_)|refine qf _ (k:=?_))
     refine qc ?_
     simp (maxSteps:=4000000) [-getElem?_pos,-qb]
     refine qg [6] _ (k:=?_)
     repeat (first|refine qe _ (hs:=by simp (maxSteps:=4000000) [-getElem?_pos,hb];exact rfl) (k:=?_)|refine qf _ (k:=?_))
     refine qc ?_
     simp (maxSteps:=4000000) [-getElem?_pos,-qb,hb,hR0]
     refine qg [] _ (k:=?_)
     repeat (first|refine qe _ (hs:=by simp (maxSteps:=4000000) [-getElem?_pos,hb,hW,h2,hE,hm,hP,hCF];exact rfl) (k:=?_)|refine qf _ (k:=?_))
     refine qc ?_
     simp (maxSteps:=4000000) [-getElem?_pos,-qb]
     refine qg [] _ (k:=?_)
     repeat (first|refine qe _ (hs:=by simp (maxSteps:=4000000) [-getElem?_pos,hb,hga,hg,hsa,hg2,hac,hall,hlm,h1m];exact rfl) (k:=?_)|refine qf _ (k:=?_))
     refine qc ?_
     simp (maxSteps:=4000000) [-getElem?_pos,hsa,hsa2,hg2,hg,take_app,Tryz.results187]
     all_goals rw[ql (qa3 _ _ (by simp[low,lowL,lw1,lw2,lw3,lwL]))]
    ·rw[h1] at hb
     have hga:=fun J=>qw hb J
     refine qd rfl Tryz.func187 rfl (by simp[Tryz.ntmps187]) (by kernel_rfl) (by kernel_rfl) ?_
     simp (maxSteps:=4000000) [-getElem?_pos,-qb,hwq]
     refine qg [] _ (k:=?_)
     repeat (first|refine qe _ (hs:=by simp (maxSteps:=4000000) [-getElem?_pos];exact rfl) (k:=?_)|refine qf _ (k:=?_))
     refine qc ?_
     simp (maxSteps:=4000000) [-getElem?_pos,-qb]
     refine qg [6] _ (k:=?_)
     repeat (first|refine qe _ (hs:=by simp (maxSteps:=4000000) [-getElem?_pos,hb];exact rfl) (k:=?_)|refine qf _ (k:=?_))
     refine qc ?_
     simp (maxSteps:=4000000) [-getElem?_pos,-qb,hb,hLl,hR]
     refine qg [] _ (k:=?_)
     repeat (first|refine qe _ (hs:=by simp (maxSteps:=4000000) [-getElem?_pos,hb,hW,h2,hE,hm,hP,hCF];exact rfl) (k:=?_)|refine qf _ (k:=?_))
     refine qc ?_
     simp (maxSteps:=4000000) [-getElem?_pos,-qb]
     refine qg [] _ (k:=?_)
     repeat (first|refine qe _ (hs:=by simp (maxSteps:=4000000) [-getElem?_pos,hb,hga,hg,hsa,hg2,hac,hall,hlm,h1m];exact rfl) (k:=?_)|refine qf _ (k:=?_))
     refine qc ?_
     simp (maxSteps:=4000000) [-getElem?_pos,hsa,hsa2,hg2,hg,take_app,Tryz.results187]
     all_goals rw[ql (qa3 _ _ (by simp[low,lowL,lw1,lw2,lw3,lwL]))]
   ·rw[if_neg he]
    show pc _ _ _ _
    have hm:=fun J=>qaa b sh (σ++J) _ line _ (qw hb J) rfl he
    have hm0:=qaa b sh σ _ line _ hb rfl he
    rcases qab 53 2 L with ⟨h0,h1⟩|h1
    ·subst h0
     replace hR0:=hR0 (by simpa using hLl.symm)
     rw[h1] at hb
     refine q8 6 13 rfl Tryz.func187 rfl (by simp[Tryz.ntmps187]) (by kernel_rfl) (by kernel_rfl) ?_
     simp (maxSteps:=4000000) [-getElem?_pos,-qb,hwq]
     refine qg [] _ (k:=?_)
     repeat (first|refine qe _ (hs:=by simp (maxSteps:=4000000) [-getElem?_pos];exact rfl) (k:=?_)|refine qf _ (k:=?_))
     refine qc ?_
     simp (maxSteps:=4000000) [-getElem?_pos,-qb]
     refine qg [6] _ (k:=?_)
     repeat (first|refine qe _ (hs:=by simp (maxSteps:=4000000) [-getElem?_pos,hb];exact rfl) (k:=?_)|refine qf _ (k:=?_))
     refine qc ?_
     simp (maxSteps:=4000000) [-getElem?_pos,-qb,hb,hR0]
     refine qai [] _ _ (by kernel_rfl) (by rfl) (by rfl) (by simp (maxSteps:=4000000) [];exact rfl) (by simp only[List.length_cons,List.length_nil,Nat.reduceAdd,Nat.reduceSub,List.take_succ_cons,List.take_zero];exact rfl) ?_
     repeat (first|refine qe _ (hs:=by simp (maxSteps:=4000000) [-getElem?_pos,hb,hW,h2,hE,hP,hCF];exact rfl) (k:=?_)|refine qf _ (k:=?_))
     refine qc ?_
     simp (maxSteps:=4000000) [hm,hm0]
    ·rw[h1] at hb
     refine q8 6 13 rfl Tryz.func187 rfl (by simp[Tryz.ntmps187]) (by kernel_rfl) (by kernel_rfl) ?_
     simp (maxSteps:=4000000) [-getElem?_pos,-qb,hwq]
     refine qg [] _ (k:=?_)
     repeat (first|refine qe _ (hs:=by simp (maxSteps:=4000000) [-getElem?_pos];exact rfl) (k:=?_)|refine qf _ (k:=?_))
     refine qc ?_
     simp (maxSteps:=4000000) [-getElem?_pos,-qb]
     refine qg [6] _ (k:=?_)
     repeat (first|refine qe _ (hs:=by simp (maxSteps:=4000000) [-getElem?_pos,hb];exact rfl) (k:=?_)|refine qf _ (k:=?_))
     refine qc ?_
     simp (maxSteps:=4000000) [-getElem?_pos,-qb,hb,hLl,hR]
     refine qai [] _ _ (by kernel_rfl) (by rfl) (by rfl) (by simp (maxSteps:=4000000) [];exact rfl) (by simp only[List.length_cons,List.length_nil,Nat.reduceAdd,Nat.reduceSub,List.take_succ_cons,List.take_zero];exact rfl) ?_
     repeat (first|refine qe _ (hs:=by simp (maxSteps:=4000000) [-getElem?_pos,hb,hW,h2,hE,hP,hCF];exact rfl) (k:=?_)|refine qf _ (k:=?_))
     refine qc ?_
     simp (maxSteps:=4000000) [hm,hm0]
end Go.Proofs.Tryz.Ai
end
section
namespace Go.Proofs.Tryz.Ai
open Go Go.AI Go.Proofs
set_option maxHeartbeats 8000000
set_option maxRecDepth 4000
set_option linter.unusedVariables false
theorem tokF_len:∀(n:Nat) (s:List UInt8) (l:List Tok),tokF n s=some l→l.length≤s.length∧∀t∈l,t.2.length≤s.length
 | 0,_,_,h=>by cases h
 | _+1,[],l,h=>by simp only[tokF,Option.some.injEq] at h;subst h;simp
 | n+1,c::r,l,h=>by
  simp only[tokF] at h
  split at h
  ·obtain⟨h1,h2⟩:=tokF_len n r l h
   exact⟨by simp;omega,fun t ht=>by have:=h2 t ht;simp;omega⟩
  ·split at h
   ·cases hr:tokF n r with
    | none=>rw[hr] at h;cases h
    | some l' =>
     rw[hr] at h
     simp only[Option.map_some,Option.some.injEq] at h
     subst h
     obtain⟨h1,h2⟩:=tokF_len n r l' hr
     refine⟨by simp;omega,fun t ht=>?_⟩
     rcases List.mem_cons.1 ht with rfl|ht
     ·simp
     ·have:=h2 t ht;simp;omega
   ·split at h
    ·rename_i hw
     cases hr:tokF n ((c::r).dropWhile isWd) with
     | none=>rw[hr] at h;cases h
     | some l' =>
      rw[hr] at h
      simp only[Option.map_some,Option.some.injEq] at h
      subst h
      obtain⟨h1,h2⟩:=tokF_len n _ l' hr
      have hd:((c::r).dropWhile isWd).length≤r.length:=by rw[List.dropWhile_cons,if_pos hw];exact qbm r
      refine⟨by simp only[List.length_cons];omega,fun t ht=>?_⟩
      rcases List.mem_cons.1 ht with rfl|ht
      ·unfold tkW
       split
       ·simp
       ·exact (List.takeWhile_prefix isWd).length_le
      ·have:=h2 t ht;simp only[List.length_cons];omega
    ·cases h
theorem tokB_tk {s:List UInt8} {l:List Tok} (hs:s.length≤2^28) (h:tokB s=some l):TkB l:=by
 obtain⟨h1,h2⟩:=tokF_len _ _ _ h
 exact⟨by omega,fun t ht=>by have:=h2 t ht;omega⟩
def mdW:List UInt8:=[109,111,100,117,108,101]
def goW:List UInt8:=[103,111]
def indW:List UInt8:=[105,110,100,105,114,101,99,116]
def stmG (w:List UInt8):Option (FuncId×(Ps→List Tok→Except Int Ps)) :=
 if w=mdW then some (182,mdP) else if w=goW then some (183,goP)
 else if w=[114,101,113,117,105,114,101] then some (184,rqP) else if w=[101,120,99,108,117,100,101] then some (185,exP)
 else if w=[114,101,112,108,97,99,101] then some (186,rpP) else if w=[114,101,116,114,97,99,116] then some (187,rtP) else none
theorem qpx (f:FuncId→AV) (w:List UInt8):mpGet stmN (stmF.map f) w=(stmG w).map fun q=>f q.1:=by
 by_cases e1:w=mdW
 ·subst e1;rfl
 by_cases e2:w=goW
 ·subst e2;rfl
 by_cases e3:w=[114,101,113,117,105,114,101]
 ·subst e3;rfl
 by_cases e4:w=[101,120,99,108,117,100,101]
 ·subst e4;rfl
 by_cases e5:w=[114,101,112,108,97,99,101]
 ·subst e5;rfl
 by_cases e6:w=[114,101,116,114,97,99,116]
 ·subst e6;rfl
 have hs:stmG w=none:=by unfold stmG;rw[if_neg e1,if_neg e2,if_neg e3,if_neg e4,if_neg e5,if_neg e6]
 rw[hs]
 unfold mdW at e1
 unfold goW at e2
 simp[stmN,stmF,mpGet,e1,e2,e3,e4,e5,e6]
theorem qpy {w:List UInt8} {g:FuncId} {R:Ps→List Tok→Except Int Ps} (h:stmG w=some (g,R)):StOk g R∧g<100000:=by
 unfold stmG at h
 split at h
 ·injection h with h;injection h with h1 h2;subst h1 h2;exact⟨qie,by decide⟩
 split at h
 ·injection h with h;injection h with h1 h2;subst h1 h2;exact⟨qpw,by decide⟩
 split at h
 ·injection h with h;injection h with h1 h2;subst h1 h2;exact⟨qgl,by decide⟩
 split at h
 ·injection h with h;injection h with h1 h2;subst h1 h2;exact⟨qgm,by decide⟩
 split at h
 ·injection h with h;injection h with h1 h2;subst h1 h2;exact⟨qgn,by decide⟩
 split at h
 ·injection h with h;injection h with h1 h2;subst h1 h2;exact⟨qgo,by decide⟩
 ·cases h
def stmM (b:Nat) (sh:Option (TypeId×Nat)):List AV:=stmF.map fun f=>.fb f [.gp b 0 sh]
theorem qs3 (b:Nat) (sh:Option (TypeId×Nat)) (w:List UInt8):lookA Tryz.prog 187 (.mp stmN (stmM b sh)) (.str w)=some (match stmG w with
  | some q=>.fb q.1 [.gp b 0 sh]
  | none=>.nilf):=by
 have hu:Tryz.prog.underlying 187=some (.map 9 186):=by kernel_rfl
 have hk:Tryz.prog.underlying 9=some .string:=by kernel_rfl
 have hz:zeroA Tryz.prog 186=some .nilf:=by kernel_rfl
 have hm:=qpx (fun f=>.fb f [.gp b 0 sh]) w
 simp only[lookA,hu,hk,need,if_true,hz,bnd,stmM,hm]
 cases stmG w<;>simp[qan]
theorem qys (b:Nat) (sh:Option (TypeId×Nat)) (σ:List (List AV)):ev 121 [.gp b 0 sh] σ=some (.mp stmN (stmM b sh),σ):=by rw[qhx];rfl
def endP (p:Ps):Except (Int×Int) Unit :=
 if p.blk≠[] then .error (p.line+1,11) else if p.md=false then .error (0,2) else if p.f.rq.any (isQ p.f.m) then .error (0,12) else .ok ()
theorem qt6 (b:Nat) (sh:Option (TypeId×Nat)) (p:Ps) (σ:List (List AV)) (hf:MfB p.f) (h0:0≤p.line) (h1:p.line≤2^40) (hb:σ[b]? = some (psC p)) :
  match endP p with
  | .ok _=>ev 52 [.gp b 0 sh] σ=some (.tup [],σ.set b (psC {p with line:=0}))
  | .error e=>pc 52 [.gp b 0 sh] σ (fltV e.1 e.2):=by
 have hbl:=(List.getElem?_eq_some_iff.1 hb).1
 have hg:=fun c=>qbj hbl c
 have hg2:∀(c:List AV) (J:List (List AV)),(σ.set b c++J)[b]? = some c:=fun c J=>qw (hg c) J
 have hW:=fun b e=>qaw b e
 have hlq:=hf.lq
 have w1:IntKind.i64.wrap (p.line+1)=p.line+1:=qk (by omega)
 obtain⟨⟨m,g,rq,ex,rp,rt⟩,line,blk,ind,md⟩:=p
 simp only[psC,endP] at hb hlq w1 ⊢
 have hm:=qbi b sh
 obtain⟨A2,hA2⟩:∃A,slN 55 2 (ex.map modA)=A:=⟨_,rfl⟩
 rw[hA2] at hb
 have lw2:low σ.length A2:=by rw[← hA2];exact qad _ _ (by simp)
 obtain⟨A3,hA3⟩:∃A,slN 57 4 (rp.map rpF)=A:=⟨_,rfl⟩
 rw[hA3] at hb
 have lw3:low σ.length A3:=by rw[← hA3];exact qad _ _ (by simp)
 obtain⟨A4,hA4⟩:∃A,slN 53 2 (rt.map rtF)=A:=⟨_,rfl⟩
 rw[hA4] at hb
 have lw4:low σ.length A4:=by rw[← hA4];exact qad _ _ (by simp)
 by_cases hblk:blk=[]
 ·rw[if_neg (by simpa using hblk)]
  subst hblk
  cases md with
  | false =>
   rw[if_pos rfl]
   show pc _ _ _ _
   have hp:=fun c=>qaa b sh (σ.set b c) c 0 2 (hg c)
   refine q8 3 7 rfl Tryz.func52 rfl (by simp[Tryz.ntmps52]) (by kernel_rfl) (by kernel_rfl) ?_
   simp (maxSteps:=4000000) [-getElem?_pos,hb,hg,hW,hm,w1,hp]
  | true =>
   rw[if_neg (by simp)]
   have hOP:=fun σ=>qfz m σ
   have hCF:=fun (S:List (List AV))=>qbg rq (by omega) 144 (by decide) [.gp S.length 0 (some (9,1))] (by simp[args,arg,dem]) (isQ m) (S++[[.str m]]) (fun y _=>qed m _ _ y _ (by simp))
   obtain⟨t,ht⟩:∃t,rq.any (isQ m)=t:=⟨_,rfl⟩
   simp only[ht] at hCF ⊢
   replace hCF:=fun c:List AV=>hCF (σ.set b c)
   simp only[List.length_set] at hCF
   obtain⟨L,hL⟩:∃L,rq.map rqF=L:=⟨_,rfl⟩
   have hall:allCells 3 L:=by rw[← hL];simp
   have lwL:lowL σ.length L:=by rw[← hL];simp
   rw[hL] at hCF hb ⊢
   rcases qab 49 3 L with ⟨e0,e1⟩|e1
   ·subst e0
    rw[e1] at hb ⊢
    cases t with
    | true =>
     rw[if_pos rfl]
     show pc _ _ _ _
     have hp:=fun c J=>qaa b sh (σ.set b c++J) c 0 12 (hg2 c J)
     refine q8 4 14 rfl Tryz.func52 rfl (by simp[Tryz.ntmps52]) (by kernel_rfl) (by kernel_rfl) ?_
     simp (maxSteps:=4000000) [-getElem?_pos,-qb,hb,hg,hW,hm,w1]
     refine qai [] _ _ (by kernel_rfl) (by rfl) (by rfl) (by simp (maxSteps:=4000000) [];exact rfl) (by simp only[List.length_cons,List.length_nil,Nat.reduceAdd,Nat.reduceSub,List.take_succ_cons,List.take_zero];exact rfl) ?_
     repeat (first|refine qe _ (hs:=by simp (maxSteps:=4000000) [-getElem?_pos,hb,hg,hg2,hW,hOP,hCF];exact rfl) (k:=?_)|refine qf _ (k:=?_))
     refine qc ?_
     simp (maxSteps:=4000000) [hp]
    | false =>
     rw[if_neg (by simp)]
     show ev _ _ _=_
     simp only[hA2,hA3,hA4]
     refine qd rfl Tryz.func52 rfl (by simp[Tryz.ntmps52]) (by kernel_rfl) (by kernel_rfl) ?_
     simp (maxSteps:=4000000) [-getElem?_pos,-qb,hb,hg,hW,hm,w1]
     refine qg [] _ (k:=?_)
     repeat (first|refine qe _ (hs:=by simp (maxSteps:=4000000) [-getElem?_pos,hb,hg,hg2,hW,hOP,hCF,hm];exact rfl) (k:=?_)|refine qf _ (k:=?_))
     refine qc ?_
     simp (maxSteps:=4000000) [-getElem?_pos,hg,hg2,take_app,Tryz.results52]
     all_goals rw[ql (qa3 _ _ (by simp[low,lowL,lwL,lw2,lw3,lw4]))]
   ·rw[e1] at hb ⊢
    cases t with
    | true =>
     rw[if_pos rfl]
     show pc _ _ _ _
     have hp:=fun c J=>qaa b sh (σ.set b c++J) c 0 12 (hg2 c J)
     refine q8 4 14 rfl Tryz.func52 rfl (by simp[Tryz.ntmps52]) (by kernel_rfl) (by kernel_rfl) ?_
     simp (maxSteps:=4000000) [-getElem?_pos,-qb,hb,hg,hW,hm,w1]
     refine qai [] _ _ (by kernel_rfl) (by rfl) (by rfl) (by simp (maxSteps:=4000000) [];exact rfl) (by simp only[List.length_cons,List.length_nil,Nat.reduceAdd,Nat.reduceSub,List.take_succ_cons,List.take_zero];exact rfl) ?_
     repeat (first|refine qe _ (hs:=by simp (maxSteps:=4000000) [-getElem?_pos,hb,hg,hg2,hW,hOP,hCF,hall];exact rfl) (k:=?_)|refine qf _ (k:=?_))
     refine qc ?_
     simp (maxSteps:=4000000) [hp]
    | false =>
     rw[if_neg (by simp)]
     show ev _ _ _=_
     simp only[hA2,hA3,hA4]
     refine qd rfl Tryz.func52 rfl (by simp[Tryz.ntmps52]) (by kernel_rfl) (by kernel_rfl) ?_
     simp (maxSteps:=4000000) [-getElem?_pos,-qb,hb,hg,hW,hm,w1]
     refine qg [] _ (k:=?_)
     repeat (first|refine qe _ (hs:=by simp (maxSteps:=4000000) [-getElem?_pos,hb,hg,hg2,hW,hOP,hCF,hm,hall];exact rfl) (k:=?_)|refine qf _ (k:=?_))
     refine qc ?_
     simp (maxSteps:=4000000) [-getElem?_pos,hg,hg2,take_app,Tryz.results52]
     all_goals rw[ql (qa3 _ _ (by simp[low,lowL,lwL,lw2,lw3,lw4]))]
 ·rw[if_pos hblk]
  show pc _ _ _ _
  have hblk':(blk==[])=false:=by simpa using hblk
  have hp:=fun c=>qaa b sh (σ.set b c) c (line+1) 11 (hg c)
  refine q8 1 7 rfl Tryz.func52 rfl (by simp[Tryz.ntmps52]) (by kernel_rfl) (by kernel_rfl) ?_
  simp (maxSteps:=4000000) [-getElem?_pos,hb,hg,hW,hm,w1,hp,hblk,hblk']
end Go.Proofs.Tryz.Ai
end
section
namespace Go.Proofs.Tryz.Ai
open Go Go.AI Go.Proofs
set_option maxHeartbeats 8000000
set_option maxRecDepth 4000
set_option linter.unusedVariables false
theorem tokens_pan (b0:Nat) (sh0:Option (TypeId×Nat)) (s:List UInt8) (hs:s.length≤2^30) (hT:tokB s=none) (σ:List (List AV)) (cs:List AV) (line:Int) (hb:σ[b0]? = some cs) (hln:cs[6]? = some (.int .i64 line)) :
  pc 119 [.gp b0 0 sh0,.str s] σ (fltV line 11):=by
 refine q8 9 1 rfl Tryz.func119 rfl (by simp[Tryz.ntmps119]) (by kernel_rfl) (by kernel_rfl) ?_
 simp (maxSteps:=4000000) []
 refine qvk (I:=fun p:AV×List (List AV)×Nat=>⟨[(0,.gp b0 0 sh0),(1,.str s),(5,p.1),(6,.int .i64 p.2.2)],[],p.2.1⟩) (Pr:=fun p=>tkI s σ p.1 p.2.1 p.2.2) (μ:=fun p=>s.length-p.2.2) (.sl (.ex 190 2) [],σ,0) (by simp) ⟨[],.inl ⟨rfl,rfl,rfl⟩,by simp,by simp,by simp⟩ ?_
 rintro⟨v,S,i⟩ ⟨l,hv,hi,hli,he⟩
 simp only at hv hi hli he ⊢
 by_cases hc:i<s.length
 ·skip
  have w1:IntKind.i64.wrap ((i:Int)+1)=(i:Int)+1:=qk (by omega)
  obtain⟨x,hx⟩:∃x,s[i]? = some x:=⟨_,List.getElem?_eq_getElem hc⟩
  have hdx:s.drop i=x::s.drop (i+1):=by obtain⟨h1,h2⟩:=List.getElem?_eq_some_iff.1 hx;rw[List.drop_eq_getElem_cons h1,h2]
  rw[hdx] at he
  have hB1:=fun σ=>qa4 [40,41,91,93,44] x σ
  have hB2:=qba x [40,41,91,93,44]
  have hlm:l.length+1≤most:=by unfold most;omega
  have h1m:1≤most:=by unfold most;omega
  cases hbl:isBl x with
  | true =>
   rw[tokB_bl hbl] at he
   have hbx:x=32∨x=9:=by simpa[isBl] using hbl
   right;rcases hbx with rfl|rfl
   all_goals
    simp (maxSteps:=4000000) [-getElem?_pos,-Prod.exists,hc,hx,w1]
    exact⟨(v,S,i+1),⟨l,hv,by simp;omega,by simp;omega,he⟩,by simp;omega,by simp⟩
  | false =>
   have hb1:x≠32:=by rintro rfl;simp[isBl] at hbl
   have hb2:x≠9:=by rintro rfl;simp[isBl] at hbl
   cases hmk:isMk x with
   | true =>
    rw[tokB_mk hbl hmk,qic] at he
    have hmm:x∈([40,41,91,93,44]:List UInt8):=by simpa[isMk,mkL] using hmk
    have hB3:=hB2.2 hmm
    obtain⟨X,hX⟩:∃X,ixI x [40,41,91,93,44]=X:=⟨_,rfl⟩
    rw[hX] at hB1 hB3
    right;rcases hv with ⟨rfl,rfl,rfl⟩|⟨b,rfl,hB,hpos⟩
    ·simp (maxSteps:=4000000) [-getElem?_pos,-Prod.exists,hc,hx,w1,hb1,hb2,hB1,hB3,h1m]
     exact⟨(.ms 190 2 S.length 0 1,S++[[.int .u8 (x.toNat:Int),.str []]],i+1),⟨[(x,[])],.inr ⟨S.length,rfl,BoxK.new (by simp) (Nat.le_refl _) (x,[]),by simp⟩,by simp;omega,by simp,by simpa using he⟩,by simp;omega,by simp⟩
    ·have hg:=hB.get
     have hfl:=flat_lenK l
     simp (maxSteps:=4000000) [-getElem?_pos,-Prod.exists,hc,hx,w1,hb1,hb2,hB1,hB3,hlm,hg,hfl,hpos]
     exact⟨(.ms 190 2 S.length 0 (l.length+1),S.set b []++[flat (l.map tkF)++[.int .u8 (x.toNat:Int),.str []]],i+1),⟨l++[(x,[])],.inr ⟨S.length,by simp,by simpa using hB.app (x,[]),by simp⟩,by simp;omega,by simp;omega,by simpa using he⟩,by simp;omega,by simp⟩
   | false =>
    have hmm:¬x∈([40,41,91,93,44]:List UInt8):=by simpa[isMk,mkL] using hmk
    have hB3:¬0≤ixI x [40,41,91,93,44]:=fun h=>hmm (hB2.1 h)
    obtain⟨X,hX⟩:∃X,ixI x [40,41,91,93,44]=X:=⟨_,rfl⟩
    rw[hX] at hB1 hB3
    cases hwd:isWd x with
    | false =>
     left
     have hS:S[b0]? = some cs:=by
      rcases hv with ⟨rfl,rfl,rfl⟩|⟨b,rfl,hB,hpos⟩
      ·exact hb
      ·exact hB.old hb
     have hM:=qaa b0 sh0 S cs line 11 hS hln (by decide)
     have hq1:=fun σ=>qa4 [40,41,91,93,44,34] x σ
     have hq2:=qba x [40,41,91,93,44,34]
     obtain⟨Y,hYY⟩:∃Y,ixI x [40,41,91,93,44,34]=Y:=⟨_,rfl⟩
     rw[hYY] at hq1 hq2
     have hdef:isWd x=(decide (32<x.toNat)&&decide (x.toNat≤126)&&decide (x∉([40,41,91,93,44,34]:List UInt8))):=rfl
     rw[hwd] at hdef
     have hd3:¬((32<x.toNat∧x.toNat≤126)∧x∉([40,41,91,93,44,34]:List UInt8)):=by simpa using hdef.symm
     refine qt2 (id:=9) (k:=1) ?_
     simp (maxSteps:=4000000) [-getElem?_pos,-Prod.exists,hc,hx,w1,hb1,hb2,hB1,hB3]
     refine qn (I:=fun k:Nat=>⟨[(0,.gp b0 0 sh0),(1,.str s),(5,v),(6,.int .i64 k),(8,.int .i64 i)],[],S⟩) (Pr:=fun k=>k=i) (μ:=fun k=>s.length-k) (a:=i) (by simp) rfl ?_
     rintro k rfl
     by_cases q1:32<x.toNat
     ·by_cases q2:x.toNat≤126
      ·have q4:¬Y<0:=fun h=>by
        have:¬x∉([40,41,91,93,44,34]:List UInt8):=fun hn=>hd3 ⟨⟨q1,q2⟩,hn⟩
        have:=hq2.2 (Classical.not_not.1 this)
        omega
       simp (maxSteps:=4000000) [-getElem?_pos,-Prod.exists,hc,hx,q1,q2,hq1,q4,hM]
      ·simp (maxSteps:=4000000) [-getElem?_pos,-Prod.exists,hc,hx,q1,q2,hM]
     ·simp (maxSteps:=4000000) [-getElem?_pos,-Prod.exists,hc,hx,q1,hM]
    | true =>
     right;simp (maxSteps:=4000000) [-getElem?_pos,-Prod.exists,hc,hx,w1,hb1,hb2,hB1,hB3]
     refine qn (I:=fun k:Nat=>⟨[(0,.gp b0 0 sh0),(1,.str s),(5,v),(6,.int .i64 k),(8,.int .i64 i)],[],S⟩) (Pr:=fun k=>i≤k∧k≤s.length∧∀j c,i≤j→j<k→s[j]? = some c→isWd c=true) (μ:=fun k=>s.length-k) (a:=i) (by simp) ⟨Nat.le_refl _,by omega,fun j c h1 h2=>by omega⟩ ?_
     rintro k ⟨hik,hk,hrun⟩
     have w2:IntKind.i64.wrap ((k:Int)+1)=(k:Int)+1:=qk (by omega)
     have more:∀c,s[k]? = some c→isWd c=true→∀j c',i≤j→j<k+1→s[j]? = some c'→isWd c'=true:=by
      intro c h1 h2 j c' h3 h4 h5
      by_cases hjk:j=k
      ·subst hjk;rw[h1] at h5;injection h5 with h5;subst h5;exact h2
      ·exact hrun j c' h3 (by omega) h5
     have leave:k≠i→(k=s.length∨∃c,s[k]? = some c∧isWd c=false)→tokB s=(tokB (s.drop k)).map ((l++[tkW ((s.take k).drop i)])++·):=by
      intro h1 h2
      obtain⟨e1,e2⟩:=qjl hik hk hrun h2
      rw[he,tokB_wd hbl hmk hwd,qic,← hdx,e1,e2]
     have hki:∀c,s[k]? = some c→isWd c=false→k≠i:=by
      rintro c h1 h2 rfl;rw[hx] at h1;injection h1 with h1;subst h1;rw[hwd] at h2;cases h2
     by_cases hkc:k<s.length
     ·obtain⟨y,hy⟩:∃y,s[k]? = some y:=⟨_,List.getElem?_eq_getElem hkc⟩
      have hY1:=fun σ=>qa4 [40,41,91,93,44,34] y σ
      have hY2:=qba y [40,41,91,93,44,34]
      obtain⟨Y,hYY⟩:∃Y,ixI y [40,41,91,93,44,34]=Y:=⟨_,rfl⟩
      rw[hYY] at hY1 hY2
      have hyn:y.toNat<256:=y.toNat_lt
      have hdef:isWd y=(decide (32<y.toNat)&&decide (y.toNat≤126)&&decide (y∉([40,41,91,93,44,34]:List UInt8))):=rfl
      cases hyw:isWd y with
      | true =>
       have hmo:=more y hy hyw
       rw[hyw] at hdef
       have hd3:(32<y.toNat∧y.toNat≤126)∧y∉([40,41,91,93,44,34]:List UInt8):=by simpa using hdef.symm
       obtain⟨⟨q1,q2⟩,q3⟩:=hd3
       have q4:Y<0:=by
        rcases Int.lt_or_le Y 0 with h|h
        ·exact h
        ·exact absurd (hY2.1 h) q3
       simp (maxSteps:=4000000) [-getElem?_pos,-Prod.exists,hkc,hy,w2,q1,q2,hY1,q4]
       exact⟨k+1,⟨by omega,by omega,hmo⟩,by omega,by simp⟩
      | false =>
       have hlv:=leave (hki y hy hyw) (.inr ⟨y,hy,hyw⟩)
       have hne:=hki y hy hyw
       rw[hyw] at hdef
       have hd3:¬((32<y.toNat∧y.toNat≤126)∧y∉([40,41,91,93,44,34]:List UInt8)):=by simpa using hdef.symm
       by_cases q1:32<y.toNat
       ·by_cases q2:y.toNat≤126
        ·have q4:¬Y<0:=fun h=>by
          have:¬y∉([40,41,91,93,44,34]:List UInt8):=fun hn=>hd3 ⟨⟨q1,q2⟩,hn⟩
          have:=hY2.2 (Classical.not_not.1 this)
          omega
         obtain⟨W,hW⟩:∃W,(s.take k).drop i=W:=⟨_,rfl⟩
         rw[hW] at hlv
         have hne':¬((k:Int)=(i:Int)):=by omega
         have hik':i≤k:=hik
         have hz0:IntKind.i64.wrap 0=0:=by decide
         have hw3:∀n:Nat,n<2^40→IntKind.i64.wrap ((n:Int)+1-1)=n:=fun n hn=>by rw[show (n:Int)+1-1=n by omega];exact qk (by omega)
         by_cases harr:W=[61,62]
         ·have htk:tkW W=(62,[]):=by unfold tkW;rw[if_pos harr]
          rw[htk] at hlv
          subst harr
          rcases hv with ⟨rfl,rfl,rfl⟩|⟨b,rfl,hB,hpos⟩
          ·simp (maxSteps:=4000000) [-getElem?_pos,-Prod.exists,hkc,hy,q1,q2,hY1,q4,hk,hne,hne',hik',hW,h1m,hz0,writeCells]
           repeat (rw[ql];rotate_left;(· (try unfold most);omega);simp (maxSteps:=4000000) [-getElem?_pos,-Prod.exists,hkc,hy,q1,q2,hY1,q4,hk,hne,hne',hik',hW,h1m,hz0,writeCells])
           exact⟨(.ms 190 2 S.length 0 1,S++[[.int .u8 62,.str []]],k),⟨[(62,[])],.inr ⟨S.length,rfl,BoxK.new (by simp) (Nat.le_refl _) (62,[]),by simp⟩,by simp;omega,by simp;omega,by simpa using hlv⟩,by simp;omega,by simp⟩
          ·have hg:=hB.get
           have hfl:=flat_lenK l
           have hll:=hw3 l.length (by omega)
           have hgs:∀X:List AV,(S.set b []++[X])[S.length]? = some X:=fun X=>by simp
           have hlz:IntKind.i64.wrap (l.length:Int)=l.length:=qk (by omega)
           have htk1:∀a b:AV,(flat (l.map tkF)++[a,b]).take (l.length*2)=flat (l.map tkF):=fun a b=>by rw[← hfl];simp
           have htk2:∀a b:AV,(flat (l.map tkF)++[a,b]).drop (l.length*2+2)=[]:=fun a b=>List.drop_eq_nil_of_le (by simp[hfl])
           simp (maxSteps:=4000000) [-getElem?_pos,-Prod.exists,hkc,hy,q1,q2,hY1,q4,hk,hne,hne',hik',hW,hlm,hg,hfl,hpos,hll,hlz,hgs,htk1,htk2,writeCells]
           repeat (rw[ql];rotate_left;(· (try unfold most);omega);simp (maxSteps:=4000000) [-getElem?_pos,-Prod.exists,hkc,hy,q1,q2,hY1,q4,hk,hne,hne',hik',hW,hlm,hg,hfl,hpos,hll,hlz,hgs,htk1,htk2,writeCells])
           exact⟨(.ms 190 2 S.length 0 (l.length+1),S.set b []++[flat (l.map tkF)++[.int .u8 62,.str []]],k),⟨l++[(62,[])],.inr ⟨S.length,by simp,by simpa using hB.app (62,[]),by simp⟩,by simp;omega,by simp;omega,by simpa using hlv⟩,by simp;omega,by simp⟩
         ·have htk:tkW W=(119,W):=by unfold tkW;rw[if_neg harr]
          rw[htk] at hlv
          have harr':(W==[61,62])=false:=by simpa using harr
          rcases hv with ⟨rfl,rfl,rfl⟩|⟨b,rfl,hB,hpos⟩
          ·simp (maxSteps:=4000000) [-getElem?_pos,-Prod.exists,hkc,hy,q1,q2,hY1,q4,hk,hne,hne',hik',hW,h1m,harr',harr]
           repeat (rw[ql];rotate_left;(· (try unfold most);omega);simp (maxSteps:=4000000) [-getElem?_pos,-Prod.exists,hkc,hy,q1,q2,hY1,q4,hk,hne,hne',hik',hW,h1m,harr',harr])
           exact⟨(.ms 190 2 S.length 0 1,S++[[.int .u8 119,.str W]],k),⟨[(119,W)],.inr ⟨S.length,rfl,BoxK.new (by simp) (Nat.le_refl _) (119,W),by simp⟩,by simp;omega,by simp;omega,by simpa using hlv⟩,by simp;omega,by simp⟩
          ·have hg:=hB.get
           have hfl:=flat_lenK l
           simp (maxSteps:=4000000) [-getElem?_pos,-Prod.exists,hkc,hy,q1,q2,hY1,q4,hk,hne,hne',hik',hW,hlm,hg,hfl,hpos,harr',harr]
           repeat (rw[ql];rotate_left;(· (try unfold most);omega);simp (maxSteps:=4000000) [-getElem?_pos,-Prod.exists,hkc,hy,q1,q2,hY1,q4,hk,hne,hne',hik',hW,hlm,hg,hfl,hpos,harr',harr])
           exact⟨(.ms 190 2 S.length 0 (l.length+1),S.set b []++[flat (l.map tkF)++[.int .u8 119,.str W]],k),⟨l++[(119,W)],.inr ⟨S.length,by simp,by simpa using hB.app (119,W),by simp⟩,by simp;omega,by simp;omega,by simpa using hlv⟩,by simp;omega,by simp⟩
        ·obtain⟨W,hW⟩:∃W,(s.take k).drop i=W:=⟨_,rfl⟩
         rw[hW] at hlv
         have hne':¬((k:Int)=(i:Int)):=by omega
         have hik':i≤k:=hik
         have hz0:IntKind.i64.wrap 0=0:=by decide
         have hw3:∀n:Nat,n<2^40→IntKind.i64.wrap ((n:Int)+1-1)=n:=fun n hn=>by rw[show (n:Int)+1-1=n by omega];exact qk (by omega)
         by_cases harr:W=[61,62]
         ·have htk:tkW W=(62,[]):=by unfold tkW;rw[if_pos harr]
          rw[htk] at hlv
          subst harr
          rcases hv with ⟨rfl,rfl,rfl⟩|⟨b,rfl,hB,hpos⟩
          ·simp (maxSteps:=4000000) [-getElem?_pos,-Prod.exists,hkc,hy,q1,q2,hk,hne,hne',hik',hW,h1m,hz0,writeCells]
           repeat (rw[ql];rotate_left;(· (try unfold most);omega);simp (maxSteps:=4000000) [-getElem?_pos,-Prod.exists,hkc,hy,q1,q2,hk,hne,hne',hik',hW,h1m,hz0,writeCells])
           exact⟨(.ms 190 2 S.length 0 1,S++[[.int .u8 62,.str []]],k),⟨[(62,[])],.inr ⟨S.length,rfl,BoxK.new (by simp) (Nat.le_refl _) (62,[]),by simp⟩,by simp;omega,by simp;omega,by simpa using hlv⟩,by simp;omega,by simp⟩
          ·have hg:=hB.get
           have hfl:=flat_lenK l
           have hll:=hw3 l.length (by omega)
           have hgs:∀X:List AV,(S.set b []++[X])[S.length]? = some X:=fun X=>by simp
           have hlz:IntKind.i64.wrap (l.length:Int)=l.length:=qk (by omega)
           have htk1:∀a b:AV,(flat (l.map tkF)++[a,b]).take (l.length*2)=flat (l.map tkF):=fun a b=>by rw[← hfl];simp
           have htk2:∀a b:AV,(flat (l.map tkF)++[a,b]).drop (l.length*2+2)=[]:=fun a b=>List.drop_eq_nil_of_le (by simp[hfl])
           simp (maxSteps:=4000000) [-getElem?_pos,-Prod.exists,hkc,hy,q1,q2,hk,hne,hne',hik',hW,hlm,hg,hfl,hpos,hll,hlz,hgs,htk1,htk2,writeCells]
           repeat (rw[ql];rotate_left;(· (try unfold most);omega);simp (maxSteps:=4000000) [-getElem?_pos,-Prod.exists,hkc,hy,q1,q2,hk,hne,hne',hik',hW,hlm,hg,hfl,hpos,hll,hlz,hgs,htk1,htk2,writeCells])
           exact⟨(.ms 190 2 S.length 0 (l.length+1),S.set b []++[flat (l.map tkF)++[.int .u8 62,.str []]],k),⟨l++[(62,[])],.inr ⟨S.length,by simp,by simpa using hB.app (62,[]),by simp⟩,by simp;omega,by simp;omega,by simpa using hlv⟩,by simp;omega,by simp⟩
         ·have htk:tkW W=(119,W):=by unfold tkW;rw[if_neg harr]
          rw[htk] at hlv
          have harr':(W==[61,62])=false:=by simpa using harr
          rcases hv with ⟨rfl,rfl,rfl⟩|⟨b,rfl,hB,hpos⟩
          ·simp (maxSteps:=4000000) [-getElem?_pos,-Prod.exists,hkc,hy,q1,q2,hk,hne,hne',hik',hW,h1m,harr',harr]
           repeat (rw[ql];rotate_left;(· (try unfold most);omega);simp (maxSteps:=4000000) [-getElem?_pos,-Prod.exists,hkc,hy,q1,q2,hk,hne,hne',hik',hW,h1m,harr',harr])
           exact⟨(.ms 190 2 S.length 0 1,S++[[.int .u8 119,.str W]],k),⟨[(119,W)],.inr ⟨S.length,rfl,BoxK.new (by simp) (Nat.le_refl _) (119,W),by simp⟩,by simp;omega,by simp;omega,by simpa using hlv⟩,by simp;omega,by simp⟩
          ·have hg:=hB.get
           have hfl:=flat_lenK l
           simp (maxSteps:=4000000) [-getElem?_pos,-Prod.exists,hkc,hy,q1,q2,hk,hne,hne',hik',hW,hlm,hg,hfl,hpos,harr',harr]
           repeat (rw[ql];rotate_left;(· (try unfold most);omega);simp (maxSteps:=4000000) [-getElem?_pos,-Prod.exists,hkc,hy,q1,q2,hk,hne,hne',hik',hW,hlm,hg,hfl,hpos,harr',harr])
           exact⟨(.ms 190 2 S.length 0 (l.length+1),S.set b []++[flat (l.map tkF)++[.int .u8 119,.str W]],k),⟨l++[(119,W)],.inr ⟨S.length,by simp,by simpa using hB.app (119,W),by simp⟩,by simp;omega,by simp;omega,by simpa using hlv⟩,by simp;omega,by simp⟩
       ·obtain⟨W,hW⟩:∃W,(s.take k).drop i=W:=⟨_,rfl⟩
        rw[hW] at hlv
        have hne':¬((k:Int)=(i:Int)):=by omega
        have hik':i≤k:=hik
        have hz0:IntKind.i64.wrap 0=0:=by decide
        have hw3:∀n:Nat,n<2^40→IntKind.i64.wrap ((n:Int)+1-1)=n:=fun n hn=>by rw[show (n:Int)+1-1=n by omega];exact qk (by omega)
        by_cases harr:W=[61,62]
        ·have htk:tkW W=(62,[]):=by unfold tkW;rw[if_pos harr]
         rw[htk] at hlv
         subst harr
         rcases hv with ⟨rfl,rfl,rfl⟩|⟨b,rfl,hB,hpos⟩
         ·simp (maxSteps:=4000000) [-getElem?_pos,-Prod.exists,hkc,hy,q1,hk,hne,hne',hik',hW,h1m,hz0,writeCells]
          repeat (rw[ql];rotate_left;(· (try unfold most);omega);simp (maxSteps:=4000000) [-getElem?_pos,-Prod.exists,hkc,hy,q1,hk,hne,hne',hik',hW,h1m,hz0,writeCells])
          exact⟨(.ms 190 2 S.length 0 1,S++[[.int .u8 62,.str []]],k),⟨[(62,[])],.inr ⟨S.length,rfl,BoxK.new (by simp) (Nat.le_refl _) (62,[]),by simp⟩,by simp;omega,by simp;omega,by simpa using hlv⟩,by simp;omega,by simp⟩
         ·have hg:=hB.get
          have hfl:=flat_lenK l
          have hll:=hw3 l.length (by omega)
          have hgs:∀X:List AV,(S.set b []++[X])[S.length]? = some X:=fun X=>by simp
          have hlz:IntKind.i64.wrap (l.length:Int)=l.length:=qk (by omega)
          have htk1:∀a b:AV,(flat (l.map tkF)++[a,b]).take (l.length*2)=flat (l.map tkF):=fun a b=>by rw[← hfl];simp
          have htk2:∀a b:AV,(flat (l.map tkF)++[a,b]).drop (l.length*2+2)=[]:=fun a b=>List.drop_eq_nil_of_le (by simp[hfl])
          simp (maxSteps:=4000000) [-getElem?_pos,-Prod.exists,hkc,hy,q1,hk,hne,hne',hik',hW,hlm,hg,hfl,hpos,hll,hlz,hgs,htk1,htk2,writeCells]
          repeat (rw[ql];rotate_left;(· (try unfold most);omega);simp (maxSteps:=4000000) [-getElem?_pos,-Prod.exists,hkc,hy,q1,hk,hne,hne',hik',hW,hlm,hg,hfl,hpos,hll,hlz,hgs,htk1,htk2,writeCells])
          exact⟨(.ms 190 2 S.length 0 (l.length+1),S.set b []++[flat (l.map tkF)++[.int .u8 62,.str []]],k),⟨l++[(62,[])],.inr ⟨S.length,by simp,by simpa using hB.app (62,[]),by simp⟩,by simp;omega,by simp;omega,by simpa using hlv⟩,by simp;omega,by simp⟩
        ·have htk:tkW W=(119,W):=by unfold tkW;rw[if_neg harr]
         rw[htk] at hlv
         have harr':(W==[61,62])=false:=by simpa using harr
         rcases hv with ⟨rfl,rfl,rfl⟩|⟨b,rfl,hB,hpos⟩
         ·simp (maxSteps:=4000000) [-getElem?_pos,-Prod.exists,hkc,hy,q1,hk,hne,hne',hik',hW,h1m,harr',harr]
          repeat (rw[ql];rotate_left;(· (try unfold most);omega);simp (maxSteps:=4000000) [-getElem?_pos,-Prod.exists,hkc,hy,q1,hk,hne,hne',hik',hW,h1m,harr',harr])
          exact⟨(.ms 190 2 S.length 0 1,S++[[.int .u8 119,.str W]],k),⟨[(119,W)],.inr ⟨S.length,rfl,BoxK.new (by simp) (Nat.le_refl _) (119,W),by simp⟩,by simp;omega,by simp;omega,by simpa using hlv⟩,by simp;omega,by simp⟩
         ·have hg:=hB.get
          have hfl:=flat_lenK l
          simp (maxSteps:=4000000) [-getElem?_pos,-Prod.exists,hkc,hy,q1,hk,hne,hne',hik',hW,hlm,hg,hfl,hpos,harr',harr]
          repeat (rw[ql];rotate_left;(· (try unfold most);omega);simp (maxSteps:=4000000) [-getElem?_pos,-Prod.exists,hkc,hy,q1,hk,hne,hne',hik',hW,hlm,hg,hfl,hpos,harr',harr])
          exact⟨(.ms 190 2 S.length 0 (l.length+1),S.set b []++[flat (l.map tkF)++[.int .u8 119,.str W]],k),⟨l++[(119,W)],.inr ⟨S.length,by simp,by simpa using hB.app (119,W),by simp⟩,by simp;omega,by simp;omega,by simpa using hlv⟩,by simp;omega,by simp⟩
     ·have hkl:k=s.length:=by omega
      have hne:k≠i:=by omega
      have hlv:=leave hne (.inl hkl)
      obtain⟨W,hW⟩:∃W,(s.take k).drop i=W:=⟨_,rfl⟩
      rw[hW] at hlv
      have hne':¬((k:Int)=(i:Int)):=by omega
      have hik':i≤k:=hik
      have hz0:IntKind.i64.wrap 0=0:=by decide
      have hw3:∀n:Nat,n<2^40→IntKind.i64.wrap ((n:Int)+1-1)=n:=fun n hn=>by rw[show (n:Int)+1-1=n by omega];exact qk (by omega)
      by_cases harr:W=[61,62]
      ·have htk:tkW W=(62,[]):=by unfold tkW;rw[if_pos harr]
       rw[htk] at hlv
       subst harr
       rcases hv with ⟨rfl,rfl,rfl⟩|⟨b,rfl,hB,hpos⟩
       ·simp (maxSteps:=4000000) [-getElem?_pos,-Prod.exists,hkc,hk,hne,hne',hik',hW,h1m,hz0,writeCells]
        repeat (rw[ql];rotate_left;(· (try unfold most);omega);simp (maxSteps:=4000000) [-getElem?_pos,-Prod.exists,hkc,hk,hne,hne',hik',hW,h1m,hz0,writeCells])
        exact⟨(.ms 190 2 S.length 0 1,S++[[.int .u8 62,.str []]],k),⟨[(62,[])],.inr ⟨S.length,rfl,BoxK.new (by simp) (Nat.le_refl _) (62,[]),by simp⟩,by simp;omega,by simp;omega,by simpa using hlv⟩,by simp;omega,by simp⟩
       ·have hg:=hB.get
        have hfl:=flat_lenK l
        have hll:=hw3 l.length (by omega)
        have hgs:∀X:List AV,(S.set b []++[X])[S.length]? = some X:=fun X=>by simp
        have hlz:IntKind.i64.wrap (l.length:Int)=l.length:=qk (by omega)
        have htk1:∀a b:AV,(flat (l.map tkF)++[a,b]).take (l.length*2)=flat (l.map tkF):=fun a b=>by rw[← hfl];simp
        have htk2:∀a b:AV,(flat (l.map tkF)++[a,b]).drop (l.length*2+2)=[]:=fun a b=>List.drop_eq_nil_of_le (by simp[hfl])
        simp (maxSteps:=4000000) [-getElem?_pos,-Prod.exists,hkc,hk,hne,hne',hik',hW,hlm,hg,hfl,hpos,hll,hlz,hgs,htk1,htk2,writeCells]
        repeat (rw[ql];rotate_left;(· (try unfold most);omega);simp (maxSteps:=4000000) [-getElem?_pos,-Prod.exists,hkc,hk,hne,hne',hik',hW,hlm,hg,hfl,hpos,hll,hlz,hgs,htk1,htk2,writeCells])
        exact⟨(.ms 190 2 S.length 0 (l.length+1),S.set b []++[flat (l.map tkF)++[.int .u8 62,.str []]],k),⟨l++[(62,[])],.inr ⟨S.length,by simp,by simpa using hB.app (62,[]),by simp⟩,by simp;omega,by simp;omega,by simpa using hlv⟩,by simp;omega,by simp⟩
      ·have htk:tkW W=(119,W):=by unfold tkW;rw[if_neg harr]
       rw[htk] at hlv
       have harr':(W==[61,62])=false:=by simpa using harr
       rcases hv with ⟨rfl,rfl,rfl⟩|⟨b,rfl,hB,hpos⟩
       ·simp (maxSteps:=4000000) [-getElem?_pos,-Prod.exists,hkc,hk,hne,hne',hik',hW,h1m,harr',harr]
        repeat (rw[ql];rotate_left;(· (try unfold most);omega);simp (maxSteps:=4000000) [-getElem?_pos,-Prod.exists,hkc,hk,hne,hne',hik',hW,h1m,harr',harr])
        exact⟨(.ms 190 2 S.length 0 1,S++[[.int .u8 119,.str W]],k),⟨[(119,W)],.inr ⟨S.length,rfl,BoxK.new (by simp) (Nat.le_refl _) (119,W),by simp⟩,by simp;omega,by simp;omega,by simpa using hlv⟩,by simp;omega,by simp⟩
       ·have hg:=hB.get
        have hfl:=flat_lenK l
        simp (maxSteps:=4000000) [-getElem?_pos,-Prod.exists,hkc,hk,hne,hne',hik',hW,hlm,hg,hfl,hpos,harr',harr]
        repeat (rw[ql];rotate_left;(· (try unfold most);omega);simp (maxSteps:=4000000) [-getElem?_pos,-Prod.exists,hkc,hk,hne,hne',hik',hW,hlm,hg,hfl,hpos,harr',harr])
        exact⟨(.ms 190 2 S.length 0 (l.length+1),S.set b []++[flat (l.map tkF)++[.int .u8 119,.str W]],k),⟨l++[(119,W)],.inr ⟨S.length,by simp,by simpa using hB.app (119,W),by simp⟩,by simp;omega,by simp;omega,by simpa using hlv⟩,by simp;omega,by simp⟩
 ·have hi':i=s.length:=by omega
  subst hi'
  rw[List.drop_length,tokB_nil,hT] at he
  cases he
end Go.Proofs.Tryz.Ai
end
section
namespace Go.Proofs.Tryz.Ai
open Go Go.AI Go.Proofs
set_option maxHeartbeats 8000000
set_option maxRecDepth 4000
set_option linter.unusedVariables false
@[simp] theorem qpz {P:Program} {c:Bool} {t:TypeId} {u v}:bin P .eql c t (.fb u v) .nilf=if isFuncT P t then some (.bool false) else none:=rfl
theorem lowPs (p:Ps) (n:Nat):lowL n (psC p):=by
 unfold psC
 refine⟨trivial,trivial,qad _ _ (by simp),qad _ _ (by simp),qad _ _ (by simp),qad _ _ (by simp),trivial,trivial,trivial,trivial,trivial⟩
def trP (c:List UInt8):Bool:=Lib.trimS c [32,9]==indW
def lineP (p:Ps):List Tok→Except Int Ps
 | []=>.ok p
 | t::r=>if p.blk≠[] then (if kindsB (t::r) [41] then .ok {p with blk:=[]} else match stmG p.blk with
   | some q=>q.2 p (t::r)
   | none=>.error 11)
  else match stmG t.2 with
   | none=>.error 11
   | some q=>if kindsB r [40]=true∧t.2≠mdW∧t.2≠goW then .ok {p with blk:=t.2} else q.2 p r
def readP (p:Ps) (s:List UInt8):Except Int Ps :=
 if 1000<s.length then .error 13 else match tokB (Lib.cut s [47,47]).1 with
  | none=>.error 11
  | some l=>lineP {p with line:=p.line+1,ind:=trP (Lib.cut s [47,47]).2.1} l
theorem qdf (s m:List UInt8):(Lib.cut s m).1.length≤s.length∧(Lib.cut s m).2.1.length≤s.length:=by
 unfold Lib.cut
 split
 ·exact⟨by simp;omega,by simp⟩
 ·exact⟨Nat.le_refl _,by simp⟩
theorem qkt (l:List Tok) (k:List UInt8):(wordsB l k).isSome=kindsB l k:=by unfold wordsB;cases kindsB l k<;>rfl
theorem qku (b:Nat) (sh:Option (TypeId×Nat)) (p:Ps) (s:List UInt8) (σ:List (List AV)) (hf:MfB p.f) (h0:0≤p.line) (h1:p.line≤2^40) (hs:s.length≤2^28) (hk:p.blk≠[]→stmG p.blk≠none) (hb:σ[b]? = some (psC p)) :
  match readP p s with
  | .ok q=>ev 51 [.gp b 0 sh,.str s] σ=some (.tup [],σ.set b (psC q))
  | .error e=>pc 51 [.gp b 0 sh,.str s] σ (fltV (p.line+1) e):=by
 have hbl:=(List.getElem?_eq_some_iff.1 hb).1
 have hg:=fun c=>qbj hbl c
 have hW:=fun b e=>qaw b e
 have w1:IntKind.i64.wrap (p.line+1)=p.line+1:=qk (by omega)
 have hm:=qbi b sh
 obtain⟨A,hA⟩:∃A,psC {p with line:=p.line+1}=A:=⟨_,rfl⟩
 have hC:∀σ,ev 50 [.str s,.str [47,47]] σ=some (.tup [.str (Lib.cut s [47,47]).1,.str (Lib.cut s [47,47]).2.1,.bool (Lib.cut s [47,47]).2.2],σ):=fun σ=>by rw[qjf];exact ql (by omega)
 obtain⟨q1,q2⟩:=qdf s [47,47]
 unfold readP trP
 obtain⟨⟨c1,c2,c3⟩,hc⟩:∃c,Lib.cut s [47,47]=c:=⟨_,rfl⟩
 simp only[hc] at hC q1 q2 ⊢
 have hTr:∀σ,ev 118 [.str c2,.str [32,9]] σ=some (.str (Lib.trimS c2 [32,9]),σ):=fun σ=>by rw[qvr];exact ql ⟨by omega,by simp,by decide⟩
 obtain⟨tr,htr⟩:∃tr,Lib.trimS c2 [32,9]=tr:=⟨_,rfl⟩
 rw[htr] at hTr ⊢
 obtain⟨iv,hiv⟩:∃iv,(tr==indW)=iv:=⟨_,rfl⟩
 have hiv':(tr==[105,110,100,105,114,101,99,116])=iv:=hiv
 rw[hiv]
 by_cases hlen:1000<s.length
 ·rw[if_pos hlen]
  have hp:=qaa b sh (σ.set b (psC {p with line:=p.line+1})) _ (p.line+1) 13 (hg _) rfl (by decide)
  obtain⟨⟨m,g,rq,ex,rp,rt⟩,line,blk,ind,md⟩:=p
  simp only[psC] at hb hp w1 ⊢
  show pc _ _ _ _
  refine q8 1 5 rfl Tryz.func51 rfl (by simp[Tryz.ntmps51]) (by kernel_rfl) (by kernel_rfl) ?_
  simp (maxSteps:=4000000) [-getElem?_pos,hb,hg,hW,w1,hlen,hp]
 ·rw[if_neg hlen]
  cases htk:tokB c1 with
  | none =>
   have hp:=tokens_pan b sh c1 (by omega) htk (σ.set b (psC {p with line:=p.line+1,ind:=iv})) _ (p.line+1) (hg _) rfl
   obtain⟨⟨m,g,rq,ex,rp,rt⟩,line,blk,ind,md⟩:=p
   simp only[psC] at hb hp w1 ⊢
   show pc _ _ _ _
   refine q8 4 2 rfl Tryz.func51 rfl (by simp[Tryz.ntmps51]) (by kernel_rfl) (by kernel_rfl) ?_
   simp (maxSteps:=4000000) [-getElem?_pos,hb,hg,hW,hm,w1,hlen,hC,hTr,hiv',hp]
  | some l =>
   have hT:=tokens_ok b sh c1 (by omega) l htk
   have htb:=tokB_tk (by omega) htk
   cases l with
   | nil =>
    simp only[lineP]
    obtain⟨⟨m,g,rq,ex,rp,rt⟩,line,blk,ind,md⟩:=p
    simp only[psC,List.map_nil] at hb hT w1 ⊢
    have hlo:=lowPs ⟨⟨m,g,rq,ex,rp,rt⟩,line+1,blk,iv,md⟩ σ.length
    simp only[psC] at hlo
    refine qd rfl Tryz.func51 rfl (by simp[Tryz.ntmps51]) (by kernel_rfl) (by kernel_rfl) ?_
    simp (maxSteps:=4000000) [-getElem?_pos,hb,hg,hW,hm,w1,hlen,hC,hTr,hiv',hT,Tryz.results51]
    rw[ql (qf1 _ hlo)]
   | cons t r =>
    have htbr:TkB r:=⟨by have:=htb.1;simp at this;omega,fun x hx=>htb.2 x (List.mem_cons_of_mem _ hx)⟩
    have hw41:=qdb (t::r) (by have:=htb.1;omega) [41] (by simp)
    have hw40:=qdb r (by have:=htbr.1;omega) [40] (by simp)
    simp only[wordsAV,qkt] at hw41 hw40
    obtain⟨k41,hk41⟩:∃k,kindsB (t::r) [41]=k:=⟨_,rfl⟩
    obtain⟨k40,hk40⟩:∃k,kindsB r [40]=k:=⟨_,rfl⟩
    obtain⟨W41,hW41⟩:∃W,((wordsB (t::r) [41]).getD []).map AV.str=W:=⟨_,rfl⟩
    obtain⟨W40,hW40⟩:∃W,((wordsB r [40]).getD []).map AV.str=W:=⟨_,rfl⟩
    rw[hk41,hW41] at hw41
    rw[hk40,hW40] at hw40
    have hL:=fun w=>qs3 b sh w
    have hS:=fun σ=>qys b sh σ
    have hl0:¬((r.length:Int)+1=0):=by omega
    simp only[lineP,hk41,hk40]
    by_cases hblk:p.blk=[]
    ·rw[if_neg (by simpa using hblk)]
     cases hq:stmG t.2 with
     | none =>
      simp only
      have hp:=qaa b sh (σ.set b (psC {p with line:=p.line+1,ind:=iv})) _ (p.line+1) 11 (hg _) rfl (by decide)
      have hL2:=hL t.2
      rw[hq] at hL2
      obtain⟨t1,t2⟩:=t
      obtain⟨⟨m,g,rq,ex,rp,rt⟩,line,blk,ind,md⟩:=p
      simp only at hblk
      subst hblk
      simp only[psC,List.map_cons,tkFx] at hb hT hw41 hp hL2 w1 ⊢
      show pc _ _ _ _
      refine q8 12 4 rfl Tryz.func51 rfl (by simp[Tryz.ntmps51]) (by kernel_rfl) (by kernel_rfl) ?_
      simp (maxSteps:=4000000) [-getElem?_pos,-qb,hb,hg,hW,hm,w1,hlen,hC,hTr,hiv',hT,hl0]
      refine qg [] _ (k:=?_)
      repeat (first|refine qe _ (hs:=by simp (maxSteps:=4000000) [-getElem?_pos,hS,hL2];exact rfl) (k:=?_)|refine qf _ (k:=?_))
      refine qc ?_
      simp (maxSteps:=4000000) [-getElem?_pos,hW,hp]
     | some q =>
      obtain⟨g0,R⟩:=q
      obtain⟨hst,hgl⟩:=qpy hq
      have hst:=hst b sh {p with line:=p.line+1,ind:=iv} r (σ.set b (psC {p with line:=p.line+1,ind:=iv})) hf htbr (hg _)
      have hL2:=hL t.2
      rw[hq] at hL2
      simp only at hL2 ⊢
      by_cases hbg:k40=true∧t.2≠mdW∧t.2≠goW
      ·rw[if_pos hbg]
       obtain⟨rfl,hn1,hn2⟩:=hbg
       obtain⟨t1,t2⟩:=t
       have hn1':(t2==[109,111,100,117,108,101])=false:=by simpa[mdW] using hn1
       have hn2':(t2==[103,111])=false:=by simpa[goW] using hn2
       replace hn1:¬t2=[109,111,100,117,108,101]:=hn1
       replace hn2:¬t2=[103,111]:=hn2
       obtain⟨⟨m,g,rq,ex,rp,rt⟩,line,blk,ind,md⟩:=p
       simp only at hblk
       subst hblk
       simp only[psC,List.map_cons,tkFx] at hb hT hw41 hL2 w1 ⊢
       clear hst
       have hlo:=lowPs ⟨⟨m,g,rq,ex,rp,rt⟩,line+1,t2,iv,md⟩ σ.length
       simp only[psC] at hlo
       refine qd rfl Tryz.func51 rfl (by simp[Tryz.ntmps51]) (by kernel_rfl) (by kernel_rfl) ?_
       simp (maxSteps:=4000000) [-getElem?_pos,-qb,hb,hg,hW,hm,w1,hlen,hC,hTr,hiv',hT,hl0]
       refine qg [] _ (k:=?_)
       repeat (first|refine qe _ (hs:=by simp (maxSteps:=4000000) [-getElem?_pos,hS,hL2];exact rfl) (k:=?_)|refine qf _ (k:=?_))
       refine qc ?_
       simp (maxSteps:=4000000) [-getElem?_pos,hW,hm,hg,hw40,hn1,hn2,hn1',hn2',Tryz.results51]
       rw[ql (qf1 _ hlo)]
      ·rw[if_neg hbg]
       have hcs:(k40=false)∨(k40=true∧t.2=mdW)∨(k40=true∧t.2=goW):=by
        cases k40 with
        | false=>exact .inl rfl
        | true =>
         by_cases e1:t.2=mdW
         ·exact .inr (.inl ⟨rfl,e1⟩)
         ·by_cases e2:t.2=goW
          ·exact .inr (.inr ⟨rfl,e2⟩)
          ·exact absurd ⟨rfl,e1,e2⟩ hbg
       cases hR:R {p with line:=p.line+1,ind:=iv} r with
       | ok q3 =>
        rw[hR] at hst
        simp only at hst ⊢
        have hlo:=lowPs q3 σ.length
        obtain⟨Z,hZ⟩:∃Z,psC q3=Z:=⟨_,rfl⟩
        rw[hZ] at hst hlo ⊢
        obtain⟨t1,t2⟩:=t
        obtain⟨⟨m,g,rq,ex,rp,rt⟩,line,blk,ind,md⟩:=p
        simp only at hblk
        subst hblk
        simp only[psC,List.map_cons,tkFx,List.set_set] at hb hT hw41 hL2 hst w1 ⊢
        rcases hcs with rfl|⟨rfl,rfl⟩|⟨rfl,rfl⟩
        all_goals
         refine qd rfl Tryz.func51 rfl (by simp[Tryz.ntmps51]) (by kernel_rfl) (by kernel_rfl) ?_
         simp (maxSteps:=4000000) [-getElem?_pos,-qb,hb,hg,hW,hm,w1,hlen,hC,hTr,hiv',hT,hl0]
         refine qg [] _ (k:=?_)
         repeat (first|refine qe _ (hs:=by simp (maxSteps:=4000000) [-getElem?_pos,hS,hL2];exact rfl) (k:=?_)|refine qf _ (k:=?_))
         refine qc ?_
         simp (maxSteps:=4000000) [-getElem?_pos,hW,hm,hg,hw40,hst,hgl,mdW,goW,Tryz.results51]
         rw[ql (qf1 _ hlo)]
       | error e =>
        rw[hR] at hst
        simp only at hst ⊢
        obtain⟨t1,t2⟩:=t
        obtain⟨⟨m,g,rq,ex,rp,rt⟩,line,blk,ind,md⟩:=p
        simp only at hblk
        subst hblk
        simp only[psC,List.map_cons,tkFx,List.set_set] at hb hT hw41 hL2 hst w1 ⊢
        show pc _ _ _ _
        rcases hcs with rfl|⟨rfl,rfl⟩|⟨rfl,rfl⟩
        all_goals
         refine q8 16 3 rfl Tryz.func51 rfl (by simp[Tryz.ntmps51]) (by kernel_rfl) (by kernel_rfl) ?_
         simp (maxSteps:=4000000) [-getElem?_pos,-qb,hb,hg,hW,hm,w1,hlen,hC,hTr,hiv',hT,hl0]
         refine qg [] _ (k:=?_)
         repeat (first|refine qe _ (hs:=by simp (maxSteps:=4000000) [-getElem?_pos,hS,hL2];exact rfl) (k:=?_)|refine qf _ (k:=?_))
         refine qc ?_
         simp (maxSteps:=4000000) [-getElem?_pos,hW,hm,hg,hw40,hst,hgl,mdW,goW]
    ·rw[if_pos hblk]
     cases k41 with
     | true =>
      rw[if_pos rfl]
      obtain⟨t1,t2⟩:=t
      obtain⟨⟨m,g,rq,ex,rp,rt⟩,line,blk,ind,md⟩:=p
      simp only at hblk
      have hblk':(blk==[])=false:=by simpa using hblk
      simp only[psC,List.map_cons,tkFx] at hb hT hw41 w1 ⊢
      have hlo:=lowPs ⟨⟨m,g,rq,ex,rp,rt⟩,line+1,[],iv,md⟩ σ.length
      simp only[psC] at hlo
      refine qd rfl Tryz.func51 rfl (by simp[Tryz.ntmps51]) (by kernel_rfl) (by kernel_rfl) ?_
      simp (maxSteps:=4000000) [-getElem?_pos,-qb,hb,hg,hW,hm,w1,hlen,hC,hTr,hiv',hT,hl0,hblk,hblk',hw41,Tryz.results51]
      rw[ql (qf1 _ hlo)]
     | false =>
      rw[if_neg (by simp)]
      cases hq:stmG p.blk with
      | none=>exact absurd hq (hk hblk)
      | some q =>
       obtain⟨g0,R⟩:=q
       obtain⟨hst,hgl⟩:=qpy hq
       have hst:=hst b sh {p with line:=p.line+1,ind:=iv} (t::r) (σ.set b (psC {p with line:=p.line+1,ind:=iv})) hf htb (hg _)
       have hL2:=hL p.blk
       rw[hq] at hL2
       simp only at hL2 ⊢
       cases hR:R {p with line:=p.line+1,ind:=iv} (t::r) with
       | ok q3 =>
        rw[hR] at hst
        simp only at hst ⊢
        have hlo:=lowPs q3 σ.length
        obtain⟨Z,hZ⟩:∃Z,psC q3=Z:=⟨_,rfl⟩
        rw[hZ] at hst hlo ⊢
        obtain⟨t1,t2⟩:=t
        obtain⟨⟨m,g,rq,ex,rp,rt⟩,line,blk,ind,md⟩:=p
        simp only at hblk
        have hblk':(blk==[])=false:=by simpa using hblk
        simp only[psC,List.map_cons,tkFx,List.set_set] at hb hT hw41 hL2 hst w1 ⊢
        refine qd rfl Tryz.func51 rfl (by simp[Tryz.ntmps51]) (by kernel_rfl) (by kernel_rfl) ?_
        simp (maxSteps:=4000000) [-getElem?_pos,-qb,hb,hg,hW,hm,w1,hlen,hC,hTr,hiv',hT,hl0,hblk,hblk',hw41]
        refine qg [] _ (k:=?_)
        repeat (first|refine qe _ (hs:=by simp (maxSteps:=4000000) [-getElem?_pos,hS,hL2,hg,hst,hgl];exact rfl) (k:=?_)|refine qf _ (k:=?_))
        refine qc ?_
        simp (maxSteps:=4000000) [-getElem?_pos,Tryz.results51]
        rw[ql (qf1 _ hlo)]
       | error e =>
        rw[hR] at hst
        simp only at hst ⊢
        obtain⟨t1,t2⟩:=t
        obtain⟨⟨m,g,rq,ex,rp,rt⟩,line,blk,ind,md⟩:=p
        simp only at hblk
        have hblk':(blk==[])=false:=by simpa using hblk
        simp only[psC,List.map_cons,tkFx,List.set_set] at hb hT hw41 hL2 hst w1 ⊢
        show pc _ _ _ _
        refine q8 10 8 rfl Tryz.func51 rfl (by simp[Tryz.ntmps51]) (by kernel_rfl) (by kernel_rfl) ?_
        simp (maxSteps:=4000000) [-getElem?_pos,-qb,hb,hg,hW,hm,w1,hlen,hC,hTr,hiv',hT,hl0,hblk,hblk',hw41]
        refine qai [] _ _ (by kernel_rfl) (by rfl) (by rfl) (by simp (maxSteps:=4000000) [];exact rfl) (by simp only[List.length_cons,List.length_nil,Nat.reduceAdd,Nat.reduceSub,List.take_succ_cons,List.take_zero];exact rfl) ?_
        repeat (first|refine qe _ (hs:=by simp (maxSteps:=4000000) [-getElem?_pos,hS,hL2,hg];exact rfl) (k:=?_)|refine qf _ (k:=?_))
        refine qc ?_
        simp (maxSteps:=4000000) [hst,hgl]
end Go.Proofs.Tryz.Ai
end
section
namespace Go.Proofs.Tryz.Ai
open Go Go.AI Go.Proofs
set_option maxHeartbeats 4000000
set_option maxRecDepth 4000
set_option linter.unusedVariables false
theorem qg8 {e:Int} {q r:Ps} (h:stE e q=.ok r):r=q∧e=0:=by
 unfold stE at h
 split at h
 ·injection h with h;exact⟨h.symm,by assumption⟩
 ·cases h
def Keeps (R:Ps→List Tok→Except Int Ps):Prop:=∀p l q,R p l=.ok q→MfB p.f→TkB l→MfB q.f∧q.line=p.line∧q.blk=p.blk
theorem qp0:Keeps mdP:=by
 intro p l q h hf hl
 unfold mdP at h
 split at h
 ·rename_i s hw
  obtain⟨rfl,_⟩:=qg8 h
  have hs:=qp hl hw (List.mem_singleton_self s)
  exact⟨{hf with m:=by simp only;omega},rfl,rfl⟩
 ·cases h
theorem qp1:Keeps goP:=by
 intro p l q h hf hl
 unfold goP at h
 split at h
 ·rename_i s hw
  obtain⟨rfl,_⟩:=qg8 h
  have hs:=qp hl hw (List.mem_singleton_self s)
  exact⟨{hf with g:=by simp only;omega},rfl,rfl⟩
 ·cases h
theorem qp2:Keeps rqP:=by
 intro p l q h hf hl
 unfold rqP at h
 split at h
 ·rename_i s v hw
  split at h
  ·cases h
  ·rename_i hr
   obtain⟨rfl,_⟩:=qg8 h
   have hs:=qp hl hw (s:=s) (by simp)
   have hv:=qp hl hw (s:=v) (by simp)
   refine⟨{hf with lq:=by simp only[List.length_append,List.length_cons,List.length_nil];omega,rq:=fun x hx=>?_},rfl,rfl⟩
   rcases List.mem_append.1 hx with hx|hx
   ·exact hf.rq x hx
   ·rw[List.mem_singleton.1 hx];exact⟨by simp only;omega,by simp only;omega⟩
 ·cases h
theorem qp3:Keeps exP:=by
 intro p l q h hf hl
 unfold exP at h
 split at h
 ·rename_i s v hw
  split at h
  ·cases h
  ·rename_i hr
   obtain⟨rfl,_⟩:=qg8 h
   have hs:=qp hl hw (s:=s) (by simp)
   have hv:=qp hl hw (s:=v) (by simp)
   refine⟨{hf with le:=by simp only[List.length_append,List.length_cons,List.length_nil];omega,ex:=fun x hx=>?_},rfl,rfl⟩
   rcases List.mem_append.1 hx with hx|hx
   ·exact hf.ex x hx
   ·rw[List.mem_singleton.1 hx];exact⟨by simp only;omega,by simp only;omega⟩
 ·cases h
theorem qwa {l:List Tok} (hl:TkB l) {r:Rp} (h:rpW l=some r):qdi r.1∧qdi r.2:=by
 unfold rpW at h
 split at h
 ·rename_i a c d hw
  injection h with h;subst h
  have ha:=qp hl hw (s:=a) (by simp)
  have hc:=qp hl hw (s:=c) (by simp)
  have hd:=qp hl hw (s:=d) (by simp)
  exact⟨⟨by simp only;omega,by simp⟩,⟨by simp only;omega,by simp only;omega⟩⟩
 ·split at h
  ·rename_i a b c d hw
   injection h with h;subst h
   have ha:=qp hl hw (s:=a) (by simp)
   have hb:=qp hl hw (s:=b) (by simp)
   have hc:=qp hl hw (s:=c) (by simp)
   have hd:=qp hl hw (s:=d) (by simp)
   exact⟨⟨by simp only;omega,by simp only;omega⟩,⟨by simp only;omega,by simp only;omega⟩⟩
  ·cases h
theorem qp4:Keeps rpP:=by
 intro p l q h hf hl
 unfold rpP at h
 split at h
 ·rename_i r hw
  split at h
  ·cases h
  ·rename_i hr
   obtain⟨rfl,_⟩:=qg8 h
   refine⟨{hf with lp:=by simp only[List.length_append,List.length_cons,List.length_nil];omega,rp:=fun x hx=>?_},rfl,rfl⟩
   rcases List.mem_append.1 hx with hx|hx
   ·exact hf.rp x hx
   ·rw[List.mem_singleton.1 hx];exact qwa hl hw
 ·cases h
theorem qwb {l:List Tok} (hl:TkB l) {r:Rt} (h:rtW l=some r):qdi r:=by
 unfold rtW at h
 split at h
 ·rename_i a hw
  injection h with h;subst h
  have ha:=qp hl hw (s:=a) (by simp)
  exact⟨by simp only;omega,by simp only;omega⟩
 ·split at h
  ·rename_i a b hw
   injection h with h;subst h
   have ha:=qp hl hw (s:=a) (by simp)
   have hb:=qp hl hw (s:=b) (by simp)
   exact⟨by simp only;omega,by simp only;omega⟩
  ·cases h
theorem qp5:Keeps rtP:=by
 intro p l q h hf hl
 unfold rtP at h
 split at h
 ·rename_i r hw
  split at h
  ·cases h
  ·rename_i hr
   obtain⟨rfl,_⟩:=qg8 h
   refine⟨{hf with lt:=by simp only[List.length_append,List.length_cons,List.length_nil];omega,rt:=fun x hx=>?_},rfl,rfl⟩
   rcases List.mem_append.1 hx with hx|hx
   ·exact hf.rt x hx
   ·rw[List.mem_singleton.1 hx];exact qwb hl hw
 ·cases h
theorem qg9 {w:List UInt8} {g:FuncId} {R:Ps→List Tok→Except Int Ps} (h:stmG w=some (g,R)):Keeps R:=by
 unfold stmG at h
 split at h
 ·injection h with h;injection h with h1 h2;subst h2;exact qp0
 split at h
 ·injection h with h;injection h with h1 h2;subst h2;exact qp1
 split at h
 ·injection h with h;injection h with h1 h2;subst h2;exact qp2
 split at h
 ·injection h with h;injection h with h1 h2;subst h2;exact qp3
 split at h
 ·injection h with h;injection h with h1 h2;subst h2;exact qp4
 split at h
 ·injection h with h;injection h with h1 h2;subst h2;exact qp5
 ·cases h
def BkOk (p:Ps):Prop:=p.blk≠[]→stmG p.blk≠none
theorem qkv {p q:Ps} {l:List Tok} (h:lineP p l=.ok q) (hf:MfB p.f) (hl:TkB l) (hk:BkOk p):MfB q.f∧q.line=p.line∧BkOk q:=by
 cases l with
 | nil=>simp only[lineP] at h;injection h with h;subst h;exact⟨hf,rfl,hk⟩
 | cons t r =>
  have hr:TkB r:=⟨by have:=hl.1;simp at this;omega,fun x hx=>hl.2 x (List.mem_cons_of_mem _ hx)⟩
  simp only[lineP] at h
  split at h
  ·split at h
   ·injection h with h;subst h;exact⟨hf,rfl,fun h=>absurd rfl h⟩
   ·split at h
    ·rename_i q0 hq
     obtain⟨h1,h2,h3⟩:=qg9 hq _ _ _ h hf hl
     exact⟨h1,h2,by unfold BkOk;rw[h3];exact hk⟩
    ·cases h
  ·split at h
   ·cases h
   ·rename_i q0 hq
    split at h
    ·injection h with h;subst h;exact⟨hf,rfl,fun _=>by simp only;rw[hq];simp⟩
    ·obtain⟨h1,h2,h3⟩:=qg9 hq _ _ _ h hf hr
     exact⟨h1,h2,by unfold BkOk;rw[h3];exact hk⟩
theorem qdt {p q:Ps} {s:List UInt8} (h:readP p s=.ok q) (hf:MfB p.f) (hs:s.length≤2^28) (hk:BkOk p):MfB q.f∧q.line=p.line+1∧BkOk q:=by
 unfold readP at h
 split at h
 ·cases h
 ·split at h
  ·cases h
  ·rename_i l hl
   have:=(qdf s [47,47]).1
   exact qkv h hf (tokB_tk (by omega) hl) hk
def lnF:Nat→List UInt8→List (List UInt8)
 | 0,_=>[]
 | n+1,s=>if s=[] then [] else (Lib.cut s [10]).1::lnF n (Lib.cut s [10]).2.1
def lnT (s:List UInt8):List (List UInt8):=lnF s.length s
theorem qdg {s:List UInt8} (h:s≠[]):(Lib.cut s [10]).2.1.length<s.length:=by
 have hp:=List.length_pos_iff.2 h
 unfold Lib.cut
 split
 ·simp;omega
 ·simpa using hp
theorem qlp:∀(n m:Nat) (s:List UInt8),s.length≤n→s.length≤m→lnF n s=lnF m s
 | 0,0,_,_,_=>rfl
 | 0,m+1,s,h,_=>by
  have:s=[]:=List.eq_nil_of_length_eq_zero (by omega)
  subst this;simp[lnF]
 | n+1,0,s,_,h=>by
  have:s=[]:=List.eq_nil_of_length_eq_zero (by omega)
  subst this;simp[lnF]
 | n+1,m+1,s,h,k=>by
  simp only[lnF]
  split
  ·rfl
  ·rename_i hs
   have:=qdg hs
   rw[qlp n m _ (by omega) (by omega)]
theorem qkw:lnT []=[]:=rfl
theorem qdh {s:List UInt8} (h:s≠[]):lnT s=(Lib.cut s [10]).1::lnT (Lib.cut s [10]).2.1:=by
 have hp:=List.length_pos_iff.2 h
 obtain⟨n,hn⟩:∃n,s.length=n+1:=⟨s.length-1,by omega⟩
 have:=qdg h
 unfold lnT
 rw[hn,lnF,if_neg h,qlp n (Lib.cut s [10]).2.1.length _ (by omega) (Nat.le_refl _)]
def readLs:Ps→List (List UInt8)→Except (Int×Int) Ps
 | p,[]=>.ok p
 | p,s::r=>match readP p s with
  | .ok q=>readLs q r
  | .error e=>.error (p.line+1,e)
def ps0:Ps:=⟨⟨[],[],[],[],[],[]⟩,0,[],false,false⟩
def mf0:Mf:=⟨[],[],[],[],[],[]⟩
def parseP (text:List UInt8):Except (Int×Int) Mf :=
 if 65536<text.length then .error (0,13) else match readLs ps0 (lnT text) with
  | .error e=>.error e
  | .ok p=>match endP p with
   | .error e=>.error e
   | .ok _=>.ok (canonM p.f)
end Go.Proofs.Tryz.Ai
end
section
namespace Go.Proofs.Tryz.Ai
open Go Go.AI Go.Proofs
set_option maxHeartbeats 16000000
set_option maxRecDepth 4000
set_option linter.unusedVariables false
theorem qs4 (m g:List UInt8) (rq:List Rq) (ex:List (List UInt8×List UInt8)) (rp:List Rp) (rt:List Rt) (hf:MfB ⟨m,g,rq,ex,rp,rt⟩) (σ:List (List AV)):ev 18 [mfF ⟨m,g,rq,ex,rp,rt⟩] σ=some (mfF (canonM ⟨m,g,rq,ex,rp,rt⟩),σ):=by
 have hA:mfF (canonM ⟨m,g,rq,ex,rp,rt⟩)=.agg [.str m,.str g,.sl .sh ((isrt rqC rq).map rqF),.sl .sh ((isrt modC ex).map modA),.sl .sh ((isrt rpC rp).map rpF),.sl .sh ((isrt rtC rt).map rtF)]:=rfl
 rw[hA,mfFx]
 have hM:=fun σ=>qko ex (by have:=hf.le;simp only at this;omega) (fun x hx=>⟨by have:=(hf.ex x hx).1;omega,by have:=(hf.ex x hx).2;omega⟩) σ
 simp only
 have sQ:=fun b S=>qpp rq hf.lq (fun x hx=>hf.rq x hx) b S
 have lQ:(isrt rqC rq).length=rq.length:=q9 _
 have eQ:=qs0 (isrt rqC rq)
 rw[← qpo,lQ] at eQ
 have nQ:=qfu 58
 have wQ:lowL σ.length ((isrt rqC rq).map rqF):=by simp
 have cQ:rq≠[]→∀S:List (List AV),ev (100000+53) [.sl .sh (rq.map rqF)] S=some (.ms 49 3 S.length 0 rq.length,S++[rowE esQ rq]):=fun h S=>qmw rq hf.lq h S
 have zQ:=qkq
 have sP:=fun b S=>qpr rp hf.lp (fun x hx=>hf.rp x hx) b S
 have lP:(isrt rpC rp).length=rp.length:=q9 _
 have eP:=qs1 (isrt rpC rp)
 rw[← qpq,lP] at eP
 have nP:=qfw 61
 have wP:lowL σ.length ((isrt rpC rp).map rpF):=by simp
 have cP:rp≠[]→∀S:List (List AV),ev (100000+55) [.sl .sh (rp.map rpF)] S=some (.ms 57 4 S.length 0 rp.length,S++[rowE esP rp]):=fun h S=>qmx rp hf.lp h S
 have zP:=qkr
 have sT:=fun b S=>qpt rt hf.lt (fun x hx=>hf.rt x hx) b S
 have lT:(isrt rtC rt).length=rt.length:=q9 _
 have eT:=qs2 (isrt rtC rt)
 rw[← qps,lT] at eT
 have nT:=qfv 65
 have wT:lowL σ.length ((isrt rtC rt).map rtF):=by simp
 have cT:rt≠[]→∀S:List (List AV),ev (100000+56) [.sl .sh (rt.map rtF)] S=some (.ms 53 2 S.length 0 rt.length,S++[rowE esT rt]):=fun h S=>qmy rt hf.lt h S
 have zT:=qks
 have wM:lowL σ.length ((isrt modC ex).map modA):=by simp
 clear hf
 obtain⟨LM,hLM⟩:∃L,(isrt modC ex).map modA=L:=⟨_,rfl⟩
 obtain⟨KM,hKM⟩:∃L,ex.map modA=L:=⟨_,rfl⟩
 rw[hLM,hKM] at hM
 rw[hLM] at wM ⊢
 rw[hKM]
 obtain⟨RQ,hRQ⟩:∃R,rowE esQ rq=R:=⟨_,rfl⟩
 obtain⟨RQ',hRQ'⟩:∃R,rowE esQ (isrt rqC rq)=R:=⟨_,rfl⟩
 obtain⟨MQ,hMQ⟩:∃R,(isrt rqC rq).map rqF=R:=⟨_,rfl⟩
 obtain⟨NQ,hNQ⟩:∃R,rq.map rqF=R:=⟨_,rfl⟩
 rw[hRQ] at sQ cQ
 rw[hRQ'] at sQ eQ
 rw[hMQ] at eQ wQ ⊢
 rw[hNQ] at cQ ⊢
 have dQ:rq=[]→NQ=[]∧MQ=[]:=fun h=>by subst h;exact⟨hNQ.symm,hMQ.symm⟩
 obtain⟨RP,hRP⟩:∃R,rowE esP rp=R:=⟨_,rfl⟩
 obtain⟨RP',hRP'⟩:∃R,rowE esP (isrt rpC rp)=R:=⟨_,rfl⟩
 obtain⟨MP,hMP⟩:∃R,(isrt rpC rp).map rpF=R:=⟨_,rfl⟩
 obtain⟨NP,hNP⟩:∃R,rp.map rpF=R:=⟨_,rfl⟩
 rw[hRP] at sP cP
 rw[hRP'] at sP eP
 rw[hMP] at eP wP ⊢
 rw[hNP] at cP ⊢
 have dP:rp=[]→NP=[]∧MP=[]:=fun h=>by subst h;exact⟨hNP.symm,hMP.symm⟩
 obtain⟨RT,hRT⟩:∃R,rowE esT rt=R:=⟨_,rfl⟩
 obtain⟨RT',hRT'⟩:∃R,rowE esT (isrt rtC rt)=R:=⟨_,rfl⟩
 obtain⟨MT,hMT⟩:∃R,(isrt rtC rt).map rtF=R:=⟨_,rfl⟩
 obtain⟨NT,hNT⟩:∃R,rt.map rtF=R:=⟨_,rfl⟩
 rw[hRT] at sT cT
 rw[hRT'] at sT eT
 rw[hMT] at eT wT ⊢
 rw[hNT] at cT ⊢
 have dT:rt=[]→NT=[]∧MT=[]:=fun h=>by subst h;exact⟨hNT.symm,hMT.symm⟩
 have key:∀(vQ vP vT:AV),True:=fun _ _ _=>trivial
 by_cases hQ:rq=[]
 ·obtain⟨aQ,bQ⟩:=dQ hQ
  rw[aQ,bQ]
  by_cases hP:rp=[]
  ·obtain⟨aP,bP⟩:=dP hP
   rw[aP,bP]
   by_cases hT:rt=[]
   ·obtain⟨aT,bT⟩:=dT hT
    rw[aT,bT]
    refine qd rfl Tryz.func18 rfl (by simp[Tryz.ntmps18]) (by kernel_rfl) (by kernel_rfl) ?_
    simp (maxSteps:=4000000) [-qb]
    refine qg [] _ (k:=?_)
    repeat (first|refine qe _ (hs:=by simp (maxSteps:=4000000) [-getElem?_pos,hM,zQ,zP,zT];exact rfl) (k:=?_)|refine qf _ (k:=?_))
    refine qc ?_
    simp (maxSteps:=4000000) [-getElem?_pos,nQ,nP,nT,wM,Tryz.results18]
   ·have cT':=cT hT
    have pT:0<rt.length:=List.length_pos_iff.2 hT
    refine qd rfl Tryz.func18 rfl (by simp[Tryz.ntmps18]) (by kernel_rfl) (by kernel_rfl) ?_
    simp (maxSteps:=4000000) [-qb]
    refine qg [] _ (k:=?_)
    repeat (first|refine qe _ (hs:=by simp (maxSteps:=4000000) [-getElem?_pos,hM,zQ,zP,cT'];exact rfl) (k:=?_)|refine qf _ (k:=?_))
    refine qc ?_
    simp (maxSteps:=4000000) [-getElem?_pos,nQ,nP,sT,eT,wT,pT,wM,Tryz.results18]
  ·have cP':=cP hP
   have pP:0<rp.length:=List.length_pos_iff.2 hP
   by_cases hT:rt=[]
   ·obtain⟨aT,bT⟩:=dT hT
    rw[aT,bT]
    refine qd rfl Tryz.func18 rfl (by simp[Tryz.ntmps18]) (by kernel_rfl) (by kernel_rfl) ?_
    simp (maxSteps:=4000000) [-qb]
    refine qg [] _ (k:=?_)
    repeat (first|refine qe _ (hs:=by simp (maxSteps:=4000000) [-getElem?_pos,hM,zQ,cP',zT];exact rfl) (k:=?_)|refine qf _ (k:=?_))
    refine qc ?_
    simp (maxSteps:=4000000) [-getElem?_pos,nQ,sP,eP,wP,pP,nT,wM,Tryz.results18]
   ·have cT':=cT hT
    have pT:0<rt.length:=List.length_pos_iff.2 hT
    refine qd rfl Tryz.func18 rfl (by simp[Tryz.ntmps18]) (by kernel_rfl) (by kernel_rfl) ?_
    simp (maxSteps:=4000000) [-qb]
    refine qg [] _ (k:=?_)
    repeat (first|refine qe _ (hs:=by simp (maxSteps:=4000000) [-getElem?_pos,hM,zQ,cP',cT'];exact rfl) (k:=?_)|refine qf _ (k:=?_))
    refine qc ?_
    simp (maxSteps:=4000000) [-getElem?_pos,nQ,sP,eP,wP,pP,sT,eT,wT,pT,wM,Tryz.results18]
 ·have cQ':=cQ hQ
  have pQ:0<rq.length:=List.length_pos_iff.2 hQ
  by_cases hP:rp=[]
  ·obtain⟨aP,bP⟩:=dP hP
   rw[aP,bP]
   by_cases hT:rt=[]
   ·obtain⟨aT,bT⟩:=dT hT
    rw[aT,bT]
    refine qd rfl Tryz.func18 rfl (by simp[Tryz.ntmps18]) (by kernel_rfl) (by kernel_rfl) ?_
    simp (maxSteps:=4000000) [-qb]
    refine qg [] _ (k:=?_)
    repeat (first|refine qe _ (hs:=by simp (maxSteps:=4000000) [-getElem?_pos,hM,cQ',zP,zT];exact rfl) (k:=?_)|refine qf _ (k:=?_))
    refine qc ?_
    simp (maxSteps:=4000000) [-getElem?_pos,sQ,eQ,wQ,pQ,nP,nT,wM,Tryz.results18]
   ·have cT':=cT hT
    have pT:0<rt.length:=List.length_pos_iff.2 hT
    refine qd rfl Tryz.func18 rfl (by simp[Tryz.ntmps18]) (by kernel_rfl) (by kernel_rfl) ?_
    simp (maxSteps:=4000000) [-qb]
    refine qg [] _ (k:=?_)
    repeat (first|refine qe _ (hs:=by simp (maxSteps:=4000000) [-getElem?_pos,hM,cQ',zP,cT'];exact rfl) (k:=?_)|refine qf _ (k:=?_))
    refine qc ?_
    simp (maxSteps:=4000000) [-getElem?_pos,sQ,eQ,wQ,pQ,nP,sT,eT,wT,pT,wM,Tryz.results18]
  ·have cP':=cP hP
   have pP:0<rp.length:=List.length_pos_iff.2 hP
   by_cases hT:rt=[]
   ·obtain⟨aT,bT⟩:=dT hT
    rw[aT,bT]
    refine qd rfl Tryz.func18 rfl (by simp[Tryz.ntmps18]) (by kernel_rfl) (by kernel_rfl) ?_
    simp (maxSteps:=4000000) [-qb]
    refine qg [] _ (k:=?_)
    repeat (first|refine qe _ (hs:=by simp (maxSteps:=4000000) [-getElem?_pos,hM,cQ',cP',zT];exact rfl) (k:=?_)|refine qf _ (k:=?_))
    refine qc ?_
    simp (maxSteps:=4000000) [-getElem?_pos,sQ,eQ,wQ,pQ,sP,eP,wP,pP,nT,wM,Tryz.results18]
   ·have cT':=cT hT
    have pT:0<rt.length:=List.length_pos_iff.2 hT
    refine qd rfl Tryz.func18 rfl (by simp[Tryz.ntmps18]) (by kernel_rfl) (by kernel_rfl) ?_
    simp (maxSteps:=4000000) [-qb]
    refine qg [] _ (k:=?_)
    repeat (first|refine qe _ (hs:=by simp (maxSteps:=4000000) [-getElem?_pos,hM,cQ',cP',cT'];exact rfl) (k:=?_)|refine qf _ (k:=?_))
    refine qc ?_
    simp (maxSteps:=4000000) [-getElem?_pos,sQ,eQ,wQ,pQ,sP,eP,wP,pP,sT,eT,wT,pT,wM,Tryz.results18]
theorem qlq (f:Mf) (hf:MfB f) (σ:List (List AV)):ev 18 [mfF f] σ=some (mfF (canonM f),σ):=qs4 f.m f.g f.rq f.ex f.rp f.rt hf σ
end Go.Proofs.Tryz.Ai
end
section
namespace Go.AI
section
variable {P:Program} {hh:Hint} {C:Oracle} {CP:Panics}
theorem qd4 {c a b:Code} {st:St} {K:Ex→St→Prop} (h:c=.seq a b) (k:Post (EXEC P hh C (.seq a b) st) K):Post (EXEC P hh C c st) K:=by rw[h];exact k
theorem qp6 {Φ:List (Nat×AV)→Prop} {c a b:Code} {st:St} {r:AV} (h:c=.seq a b) (k:PY P hh C CP Φ (.seq a b) st r):PY P hh C CP Φ c st r:=by rw[h];exact k
end
def dropSeq:Nat→Code→Code
 | n+1,.seq _ b=>dropSeq n b
 | _,c=>c
end Go.AI
namespace Go.Proofs.Tryz.Ai
open Go Go.AI Go.Proofs
set_option maxHeartbeats 8000000
set_option maxRecDepth 4000
set_option linter.unusedVariables false
noncomputable def restC:Code:=dropSeq 3 (Tryz.f16.body.getD .skip)
theorem qe1 (σ:List (List AV)) (x y:List AV):(σ++[x]).set σ.length y=σ++[y]:=by simp
structure RdI (text:List UInt8) (R:Except (Int×Int) Ps) (q:List UInt8×Ps):Prop where
 f:MfB q.2.f
 k:BkOk q.2
 l0:0≤q.2.line
 l1:q.2.line+q.1.length≤text.length
 r:readLs q.2 (lnT q.1)=R
theorem RdI.start (text:List UInt8):RdI text (readLs ps0 (lnT text)) (text,ps0) :=
 ⟨⟨by simp[ps0],by simp[ps0],by simp[ps0],by simp[ps0],by simp[ps0],by simp[ps0],by simp[ps0],by simp[ps0],by simp[ps0],by simp[ps0]⟩,fun h=>absurd rfl h,by simp[ps0],by simp[ps0],rfl⟩
theorem RdI.next {text:List UInt8} (ht:text.length≤65536) {R:Except (Int×Int) Ps} {s:List UInt8} {p q:Ps} (h:RdI text R (s,p)) (hs:s≠[]) (hr:readP p (Lib.cut s [10]).1=.ok q):RdI text R ((Lib.cut s [10]).2.1,q):=by
 have h1:=h.l1
 have h0:=h.l0
 simp only at h1 h0
 have hc:=(qdf s [10]).1
 obtain⟨k1,k2,k3⟩:=qdt hr h.f (by omega) h.k
 have hl:=qdg hs
 refine⟨k1,k3,by simp only;omega,by simp only;omega,?_⟩
 have:=h.r
 simp only[qdh hs,readLs,hr] at this ⊢
 exact this
theorem qwc (p:Ps):(psC p).length=10:=rfl
theorem qwd (t:TypeId) (n:Nat) (xs:List AV):dem (slN t n xs)=.sl .sh xs:=by cases xs<;>rfl
theorem take_psC (p:Ps):List.take 6 ((psC p).map dem)=[.str p.f.m,.str p.f.g,.sl .sh (p.f.rq.map rqF),.sl .sh (p.f.ex.map modA),.sl .sh (p.f.rp.map rpF),.sl .sh (p.f.rt.map rtF)]:=by
 unfold psC
 simp only[List.map_cons,List.map_nil,qwd]
 rfl
def PhiP (b2 b3 b4:Nat) (s2 s3 s4:Option (TypeId×Nat)) (t:List (Nat×AV)):Prop:=AI.look t 2=some (.gp b2 0 s2)∧AI.look t 3=some (.gp b3 0 s3)∧AI.look t 4=some (.gp b4 0 s4)
theorem qwe (b2 b3 b4:Nat) (s2 s3 s4:Option (TypeId×Nat)) (text:List UInt8) (ht:text.length≤65536) (pE:Ps) (hp:readLs ps0 (lnT text)=.ok pE) (hE:endP pE=.ok ()) (σ:List (List AV)) (hb2:b2<σ.length) (hb3:b3<σ.length) (hb4:b4<σ.length) (h23:b2≠b3) (h24:b2≠b4) (h34:b3≠b4)
  (a0 a1 a2 a3 a4 a5:AV) (hs2:σ[b2]? = some [a0,a1,a2,a3,a4,a5]) (hs3:σ[b3]? = some [.int .i64 0]) (hs4:σ[b4]? = some [.int .i64 0]) :
  Post (EXEC Tryz.prog h16 (EV Tryz.prog H T) restC ⟨[(0,.str text),(2,.gp b2 0 s2),(3,.gp b3 0 s3),(4,.gp b4 0 s4)],[],σ⟩) fun e st=>e=.ret∧PhiP b2 b3 b4 s2 s3 s4 st.t∧st.s=((σ.set b2 (mfC (canonM pE.f))).set b3 [.int .i64 0]).set b4 [.int .i64 0]++[psC {pE with line:=0}]:=by
 have h0:=RdI.start text
 rw[hp] at h0
 have ha:∀(J:List (List AV)) b c,σ[b]? = some c→(σ++J)[b]? = some c:=fun J b c h=>qw h J
 refine qd4 (by rfl) ?_
 simp (maxSteps:=4000000) []
 refine qn (I:=fun q:List UInt8×Ps=>⟨[(2,.gp b2 0 s2),(3,.gp b3 0 s3),(4,.gp b4 0 s4),(5,.gp σ.length 0 (some (107,10))),(6,.str q.1)],[],σ++[psC q.2]⟩) (Pr:=RdI text (.ok pE)) (μ:=fun q=>q.1.length) (a:=(text,ps0)) (by simp[psC,ps0,slN]) h0 ?_
 rintro⟨s,p⟩ hI
 have h1:=hI.l1
 have hl0:=hI.l0
 have hf:=hI.f
 have hk:=hI.k
 simp only at h1 hl0 hf hk ⊢
 have hgl:(σ++[psC p])[σ.length]? = some (psC p):=by simp
 by_cases hs:s=[]
 ·subst hs
  have hr:=hI.r
  simp only[qkw,readLs] at hr
  injection hr with hr
  subst hr
  have hEn:=qt6 σ.length (some (107,10)) p (σ++[psC p]) hf hl0 (by simp at h1;omega) hgl
  rw[hE] at hEn
  simp only[qe1] at hEn
  have hCa:=qlq p.f hf
  simp only[mfFx,canonM] at hCa
  have f2:=fun J=>qw hs2 J
  have e2:=fun x J=>qcl hb2 x J
  have f3:∀(x:List AV) J,(σ.set b2 x++J)[b3]? = some [.int .i64 0]:=fun x J=>qw (by rw[List.getElem?_set,if_neg h23];exact hs3) J
  have e3:∀(x y:List AV) J,(σ.set b2 x++J).set b3 y=(σ.set b2 x).set b3 y++J:=fun x y J=>qcl (by simpa using hb3) y J
  have f4:∀(x y:List AV) J,((σ.set b2 x).set b3 y++J)[b4]? = some [.int .i64 0]:=fun x y J=>qw (by rw[List.getElem?_set,if_neg h34,List.getElem?_set,if_neg h24];exact hs4) J
  have e4:∀(x y z:List AV) J,((σ.set b2 x).set b3 y++J).set b4 z=((σ.set b2 x).set b3 y).set b4 z++J:=fun x y z J=>qcl (by simpa using hb4) z J
  simp (maxSteps:=4000000) [-getElem?_pos,PhiP,hEn,qwc,take_psC,hCa,f2,e2,f3,e3,f4,e4,hgl]
  rfl
 ·have hs':(s==[])=false:=by simpa using hs
  have hC:∀σ,ev 50 [.str s,.str [10]] σ=some (.tup [.str (Lib.cut s [10]).1,.str (Lib.cut s [10]).2.1,.bool (Lib.cut s [10]).2.2],σ):=fun σ=>by rw[qjf];exact ql (by omega)
  have hcl:=(qdf s [10]).1
  have hR:=qku σ.length (some (107,10)) p (Lib.cut s [10]).1 (σ++[psC p]) hf hl0 (by omega) (by omega) hk hgl
  have hr:=hI.r
  simp only[qdh hs,readLs] at hr
  cases hq:readP p (Lib.cut s [10]).1 with
  | error e=>rw[hq] at hr;cases hr
  | ok q =>
   have hn:=hI.next ht hs hq
   have hls:=qdg hs
   rw[hq] at hR
   simp only[qe1] at hR
   obtain⟨⟨c1,c2,c3⟩,hc⟩:∃c,Lib.cut s [10]=c:=⟨_,rfl⟩
   simp only[hc] at hC hR hn hls
   simp (maxSteps:=4000000) [-Prod.exists,hs,hs',hC,hR]
   exact⟨(c2,q),hn,hls,by simp⟩
end Go.Proofs.Tryz.Ai
end
section
namespace Go.Proofs.Tryz.Ai
open Go Go.AI Go.Proofs
set_option maxHeartbeats 8000000
set_option maxRecDepth 4000
set_option linter.unusedVariables false
theorem qp7 (b2 b3 b4:Nat) (s2 s3 s4:Option (TypeId×Nat)) (text:List UInt8) (ht:text.length≤65536) (e:Int×Int) (hp:readLs ps0 (lnT text)=.error e) (σ:List (List AV)) :
  PY Tryz.prog h16 (EV Tryz.prog H T) (PC Tryz.prog H T) (PhiP b2 b3 b4 s2 s3 s4) restC ⟨[(0,.str text),(2,.gp b2 0 s2),(3,.gp b3 0 s3),(4,.gp b4 0 s4)],[],σ⟩ (fltV e.1 e.2):=by
 have h0:=RdI.start text
 rw[hp] at h0
 refine qp6 (by rfl) (qoz (id:=8) (k:=2) ?_)
 simp (maxSteps:=4000000) []
 refine qvm (I:=fun q:List UInt8×Ps=>⟨[(2,.gp b2 0 s2),(3,.gp b3 0 s3),(4,.gp b4 0 s4),(5,.gp σ.length 0 (some (107,10))),(6,.str q.1)],[],σ++[psC q.2]⟩) (Pr:=RdI text (.error e)) (μ:=fun q=>q.1.length) (text,ps0) (by simp[psC,ps0,slN]) h0 ?_
 rintro⟨s,p⟩ hI
 have h1:=hI.l1
 have hl0:=hI.l0
 have hf:=hI.f
 have hk:=hI.k
 simp only at h1 hl0 hf hk ⊢
 have hgl:(σ++[psC p])[σ.length]? = some (psC p):=by simp
 by_cases hs:s=[]
 ·subst hs
  have hr:=hI.r
  simp only[qkw,readLs] at hr
  cases hr
 ·have hs':(s==[])=false:=by simpa using hs
  have hC:∀σ,ev 50 [.str s,.str [10]] σ=some (.tup [.str (Lib.cut s [10]).1,.str (Lib.cut s [10]).2.1,.bool (Lib.cut s [10]).2.2],σ):=fun σ=>by rw[qjf];exact ql (by omega)
  have hcl:=(qdf s [10]).1
  have hR:=qku σ.length (some (107,10)) p (Lib.cut s [10]).1 (σ++[psC p]) hf hl0 (by omega) (by omega) hk hgl
  have hr:=hI.r
  simp only[qdh hs,readLs] at hr
  cases hq:readP p (Lib.cut s [10]).1 with
  | error e' =>
   rw[hq] at hR hr
   simp only at hR hr
   injection hr with hr
   subst hr
   left
   obtain⟨⟨c1,c2,c3⟩,hc⟩:∃c,Lib.cut s [10]=c:=⟨_,rfl⟩
   simp only[hc] at hC hR
   refine qoz (id:=8) (k:=2) ?_
   simp (maxSteps:=4000000) [PhiP,hs,hs',hC,hR]
  | ok q =>
   right
   have hn:=hI.next ht hs hq
   have hls:=qdg hs
   rw[hq] at hR
   simp only[qe1] at hR
   obtain⟨⟨c1,c2,c3⟩,hc⟩:∃c,Lib.cut s [10]=c:=⟨_,rfl⟩
   simp only[hc] at hC hR hn hls
   simp (maxSteps:=4000000) [-Prod.exists,hs,hs',hC,hR]
   exact⟨(c2,q),hn,hls,by simp⟩
theorem qp8 (b2 b3 b4:Nat) (s2 s3 s4:Option (TypeId×Nat)) (text:List UInt8) (ht:text.length≤65536) (pE:Ps) (hp:readLs ps0 (lnT text)=.ok pE) (e:Int×Int) (hE:endP pE=.error e) (σ:List (List AV)) :
  PY Tryz.prog h16 (EV Tryz.prog H T) (PC Tryz.prog H T) (PhiP b2 b3 b4 s2 s3 s4) restC ⟨[(0,.str text),(2,.gp b2 0 s2),(3,.gp b3 0 s3),(4,.gp b4 0 s4)],[],σ⟩ (fltV e.1 e.2):=by
 have h0:=RdI.start text
 rw[hp] at h0
 refine qp6 (by rfl) (qoz (id:=10) (k:=1) ?_)
 simp (maxSteps:=4000000) []
 refine qn (I:=fun q:List UInt8×Ps=>⟨[(2,.gp b2 0 s2),(3,.gp b3 0 s3),(4,.gp b4 0 s4),(5,.gp σ.length 0 (some (107,10))),(6,.str q.1)],[],σ++[psC q.2]⟩) (Pr:=RdI text (.ok pE)) (μ:=fun q=>q.1.length) (a:=(text,ps0)) (by simp[psC,ps0,slN]) h0 ?_
 rintro⟨s,p⟩ hI
 have h1:=hI.l1
 have hl0:=hI.l0
 have hf:=hI.f
 have hk:=hI.k
 simp only at h1 hl0 hf hk ⊢
 have hgl:(σ++[psC p])[σ.length]? = some (psC p):=by simp
 by_cases hs:s=[]
 ·subst hs
  have hr:=hI.r
  simp only[qkw,readLs] at hr
  injection hr with hr
  subst hr
  have hEn:=qt6 σ.length (some (107,10)) p (σ++[psC p]) hf hl0 (by simp at h1;omega) hgl
  rw[hE] at hEn
  simp only at hEn
  simp (maxSteps:=4000000) [PhiP,hEn]
 ·have hs':(s==[])=false:=by simpa using hs
  have hC:∀σ,ev 50 [.str s,.str [10]] σ=some (.tup [.str (Lib.cut s [10]).1,.str (Lib.cut s [10]).2.1,.bool (Lib.cut s [10]).2.2],σ):=fun σ=>by rw[qjf];exact ql (by omega)
  have hcl:=(qdf s [10]).1
  have hR:=qku σ.length (some (107,10)) p (Lib.cut s [10]).1 (σ++[psC p]) hf hl0 (by omega) (by omega) hk hgl
  have hr:=hI.r
  simp only[qdh hs,readLs] at hr
  cases hq:readP p (Lib.cut s [10]).1 with
  | error e=>rw[hq] at hr;cases hr
  | ok q =>
   have hn:=hI.next ht hs hq
   have hls:=qdg hs
   rw[hq] at hR
   simp only[qe1] at hR
   obtain⟨⟨c1,c2,c3⟩,hc⟩:∃c,Lib.cut s [10]=c:=⟨_,rfl⟩
   simp only[hc] at hC hR hn hls
   simp (maxSteps:=4000000) [-Prod.exists,hs,hs',hC,hR]
   exact⟨(c2,q),hn,hls,by simp⟩
end Go.Proofs.Tryz.Ai
end
section
namespace Go.Proofs.Tryz.Ai
open Go Go.AI Go.RowKit Go.Proofs
set_option maxHeartbeats 4000000
set_option maxRecDepth 100000
set_option linter.unusedVariables false
theorem qs5 (p2 p3 p4:Value) (w:World):CallsD Tryz.prog 49 #[p2,p3,p4] .returning w fun e u' w'=>(∃v,e=.returned v)∧u'=.returning∧w'=w:=by
 refine callsD_of_wpS Tryz.func49 (by rfl) ?_
 intro c₀ cs hc
 refine wpS_seq (wpS_region ?_)
 have hr:recoverD (c₀::cs)=none:=by simp[recoverD,hc]
 simp only[wpOpsS,hr,List.range_succ,Region.wanted,execOp,resolve,invoke,Exit.thenS,List.size_toArray,List.length_cons,List.length_nil,List.range_zero,List.nil_append,List.getElem?_toArray,List.getElem?_cons_zero,Nat.zero_add]
 simp[builtin,Sem.run_bind]
 refine wpS_of_wp ?_
 go_wp2
 exact⟨rfl,.returning,by rw[← hc],.tuple #[],by simp[results,Tryz.results49],⟨_,rfl⟩,rfl,rfl⟩
end Go.Proofs.Tryz.Ai
end
section
namespace Go.Proofs.Tryz.Ai
open Go Go.AI Go.RowKit Go.Proofs
set_option maxHeartbeats 4000000
set_option maxRecDepth 100000
set_option linter.unusedVariables false
@[go_sem] theorem as_flt (v:Value) (w:World):(Instr.typeAssert (.iface 104 v) 20 104 true).run Tryz.prog w=.ok (.tuple #[v,.bool true]) w:=by kernel_rfl
def closC:Code→Code
 | .seq _ (.block _ (.seq _ (.cond _ _ (.seq _ (.cond _ x _)))))=>x
 | _=>.skip
noncomputable def closX:Code:=closC (Tryz.f49.body.getD .skip)
theorem qp9 : ∃ o0 o3 r4 o5 y, Tryz.f49.body = some (.seq (.region 0 o0 false) (.block 0 (.seq (.region 3 o3 false) (.cond (.tmp 8) r4 (.seq (.region 5 o5 false) (.cond (.tmp 10) closX y)))))) ∧
    o0 = #[{ dst := some 6, op := .call ⟨.builtin .recover, #[], #[]⟩, type := 20, pos := "parse.go:210", after := #[], guard := none }] ∧
    o3 = #[{ dst := some 8, op := Op.binOp BinOp.eql 20 (Operand.tmp 6) (Operand.const Value.nilIface) 20, type := 4, pos := "parse.go:210", after := #[], guard := none }] ∧
    o5 = #[{ dst := some 9, op := Op.typeAssert (Operand.tmp 6) 20 104 true, type := 0, pos := "parse.go:210", after := #[], guard := none },
                      { dst := some 10, op := Op.extract (Operand.tmp 9) 1, type := 4, pos := "parse.go:210", after := #[{ on := 0, ground := Ground.data }], guard := none },
                      { dst := some 11, op := Op.extract (Operand.tmp 9) 0, type := 104, pos := "parse.go:210", after := #[{ on := 0, ground := Ground.data }], guard := none }] :=
  ⟨_, _, _, _, _, rfl, rfl, rfl, rfl⟩
theorem qs6 (p2 p3 p4:Value) (line err:Int) (w:World) (R:Ending→FrameMode→World→Prop)
  (k:∀Q:Exit→Act→World→Prop,(∀e a w',(match e with|.normal=>True|_=>False)→a.defers=[]→R (.returned (.tuple #[])) (.panicking [{v:=.iface 104 (.agg #[.int .i64 line,.int .i64 err]),recovered:=true}]) w'→Q e a w') →
   closX.wp Tryz.prog Q ⟨#[p2,p3,p4]++(((((Array.replicate 14 undef).setIfInBounds 3 (.iface 104 (.agg #[.int .i64 line,.int .i64 err]))).setIfInBounds 5 (.bool false)).setIfInBounds 6 (.tuple #[.agg #[.int .i64 line,.int .i64 err],.bool true])).setIfInBounds 7 (.bool true)).setIfInBounds 8 (.agg #[.int .i64 line,.int .i64 err]),[]⟩ w) :
  CallsD Tryz.prog 49 #[p2,p3,p4] (.panicking [{v:=.iface 104 (.agg #[.int .i64 line,.int .i64 err]),recovered:=false}]) w R:=by
 obtain⟨o0,o3,r4,o5,y,hb,rfl,rfl,rfl⟩:=qp9
 refine callsD_of_wpS Tryz.func49 hb ?_
 intro c₀ cs hc
 refine wpS_seq (wpS_region ?_)
 have hr:recoverD (c₀::cs)=some (.iface 104 (.agg #[.int .i64 line,.int .i64 err]),{c₀ with mode:=.panicking [{v:=.iface 104 (.agg #[.int .i64 line,.int .i64 err]),recovered:=true}]}::cs):=by simp[recoverD,hc]
 simp only[wpOpsS,hr,List.range_succ,Region.wanted,execOp,resolve,invoke,Exit.thenS,List.size_toArray,List.length_cons,List.length_nil,List.range_zero,List.nil_append,List.getElem?_toArray,List.getElem?_cons_zero,Nat.zero_add]
 simp[builtin,Sem.run_bind]
 refine wpS_of_wp ?_
 obtain⟨X,hX⟩:∃X,closX=X:=⟨_,rfl⟩
 rw[hX] at k ⊢
 go_wp2
 ·refine k _ ?_
  intro e a w' he hd hR
  cases e with
  | normal=>exact⟨hd,_,rfl,.tuple #[],by simp[results,Tryz.results49],hR⟩
  | _=>exact he.elim
end Go.Proofs.Tryz.Ai
end
section
namespace Go.Proofs.Tryz.Ai
open Go Go.AI Go.RowKit Go.Proofs
set_option maxHeartbeats 8000000
set_option maxRecDepth 4000
set_option linter.unusedVariables false
def mfZ:List AV:=[.str [],.str [],.sl .nil [],.sl .nil [],.sl .nil [],.sl .nil []]
theorem qs7 (b2 b3 b4:Nat) (s2 s3 s4:Option (TypeId×Nat)) (line err:Int) (σ:List (List AV)) (c2:List AV) (n3 n4:Int) (hc:c2.length=6) (h23:b2≠b3) (h24:b2≠b4) (h34:b3≠b4)
  (hs2:σ[b2]? = some c2) (hs3:σ[b3]? = some [.int .i64 n3]) (hs4:σ[b4]? = some [.int .i64 n4]) :
  Post (EXEC Tryz.prog h49 (EV Tryz.prog H T) closX ⟨[(0,.gp b2 0 s2),(1,.gp b3 0 s3),(2,.gp b4 0 s4),(11,.agg [.int .i64 line,.int .i64 err])],[],σ⟩) fun e st=>e=.normal∧st.s=((σ.set b2 mfZ).set b3 [.int .i64 line]).set b4 [.int .i64 err]:=by
 have hb2:=(List.getElem?_eq_some_iff.1 hs2).1
 have hb3:=(List.getElem?_eq_some_iff.1 hs3).1
 have hb4:=(List.getElem?_eq_some_iff.1 hs4).1
 match c2,hc with
 | [a0,a1,a2,a3,a4,a5],_ =>
  have f3:∀(x:List AV),(σ.set b2 x)[b3]? = some [.int .i64 n3]:=fun x=>by rw[List.getElem?_set,if_neg h23];exact hs3
  have f4:∀(x y:List AV),((σ.set b2 x).set b3 y)[b4]? = some [.int .i64 n4]:=fun x y=>by rw[List.getElem?_set,if_neg h34,List.getElem?_set,if_neg h24];exact hs4
  refine qd4 (by rfl) ?_
  simp (maxSteps:=4000000) [-getElem?_pos,hs2,hs3,hs4,f3,f4]
  rfl
abbrev fltW (line err:Int):Value:=.iface 104 (.agg #[.int .i64 line,.int .i64 err])
section
variable {B:Nat} {T0:Nat→Prop} {μ0:Gh} {w0:World} {N:Nat} {μ:Gh} {lx:Nat→Option Nat} {a:Act} {w:World} {st:St} {W0:World}
theorem qqa (hm:Tryz.prog.follows .mixedOrders=true) (hC:OracleOk Tryz.prog B W0 (EV Tryz.prog H T)) (h:Sim B T0 μ0 w0 N μ lx a w st) (hW:Below B W0 w0)
  (b2 b3 b4:Nat) (s2 s3 s4:Option (TypeId×Nat)) (line err:Int) (c2:List AV) (n3 n4:Int) (hc:c2.length=6) (h23:b2≠b3) (h24:b2≠b4) (h34:b3≠b4)
  (hs2:st.s[b2]? = some c2) (hs3:st.s[b3]? = some [.int .i64 n3]) (hs4:st.s[b4]? = some [.int .i64 n4]) (p2 p3 p4:Value)
  (r2:Rep B μ w p2 (.gp b2 0 s2)) (r3:Rep B μ w p3 (.gp b3 0 s3)) (r4:Rep B μ w p4 (.gp b4 0 s4)) (R:Ending→FrameMode→World→Prop)
  (k:∀μ' w',Sim B T0 μ0 w0 N μ' lx a w' {st with s:=((st.s.set b2 mfZ).set b3 [.int .i64 line]).set b4 [.int .i64 err]}→R (.returned (.tuple #[])) (.panicking [{v:=fltW line err,recovered:=true}]) w') :
  CallsD Tryz.prog 49 #[p2,p3,p4] (.panicking [{v:=fltW line err,recovered:=false}]) w R:=by
 refine qs6 p2 p3 p4 line err w R fun Q hQ=>?_
 have hval:∀(j:Nat) (c:AV),([.gp b2 0 s2,.gp b3 0 s3,.gp b4 0 s4]:List AV)[j]? = some c→Rep B μ w ((#[p2,p3,p4]:Array Value).getD j undef) c∧pers c=true∧quiet c=true:=by
  intro j c hc
  match j,hc with
  | 0,hc=>simp at hc;subst hc;exact⟨r2,rfl,rfl⟩
  | 1,hc=>simp at hc;subst hc;exact⟨r3,rfl,rfl⟩
  | 2,hc=>simp at hc;subst hc;exact⟨r4,rfl,rfl⟩
  | n+3,hc=>simp at hc
 have hent:=h.entry (vs:=#[p2,p3,p4]) rfl hval
 have hw:=hent.wide (n:=17) rfl (by simp)
 have hp:=hw.put (d:=11) (v:=.agg #[.int .i64 line,.int .i64 err]) (av:=.agg [.int .i64 line,.int .i64 err]) (by decide)
  ⟨.agg _ _ rfl (by simp[plain,qan,quiet]) (by
   intro j c hc
   match j,hc with
   | 0,hc=>simp at hc;subst hc;exact .int _ _
   | 1,hc=>simp at hc;subst hc;exact .int _ _
   | n+2,hc=>simp at hc),trivial⟩
  (fun j k e=>by cases j<;>cases e) (fun j j' k e=>by cases j<;>cases e)
 have hr:=hp.retmps (a':=⟨#[p2,p3,p4]++(((((Array.replicate 14 undef).setIfInBounds 3 (fltW line err)).setIfInBounds 5 (.bool false)).setIfInBounds 6 (.tuple #[.agg #[.int .i64 line,.int .i64 err],.bool true])).setIfInBounds 7 (.bool true)).setIfInBounds 8 (.agg #[.int .i64 line,.int .i64 err]),[]⟩)
  (by simp) rfl (by
   intro i v hi
   have hi:AI.look [(0,AV.gp b2 0 s2),(1,.gp b3 0 s3),(2,.gp b4 0 s4),(11,.agg [.int .i64 line,.int .i64 err])] i=some v:=hi
   clear hp hw hent hval hQ k
   simp only[AI.look] at hi
   split at hi
   ·rename_i e;subst e;simp[Act.put]
   split at hi
   ·rename_i e;subst e;simp[Act.put]
   split at hi
   ·rename_i e;subst e;simp[Act.put]
   split at hi
   ·rename_i e;subst e;simp[Act.put]
   ·cases hi)
 obtain⟨e,st',hx,rfl,hs⟩:=qs7 b2 b3 b4 s2 s3 s4 line err st.s c2 n3 n4 hc h23 h24 h34 hs2 hs3 hs4
 obtain⟨m,hme⟩:=(qq _).1 hx
 refine (qar (hh:=h49) (hW.trans h.ext.below) hC (qaj hm) m closX _ hr (by kernel_rfl) hme ?_).1
 intro μ' lx' a' w' hs'
 obtain⟨v,hv,ho⟩:=qd7 (P:=Tryz.prog) (hh:=h49) (fn:=Tryz.f49) (r:=.tup []) (s':=st'.s) hs' h.mdf (by simp[outA,Tryz.results49,resultsA,resultsT])
 obtain⟨k1,_⟩:=h.call (fun _ hk=>hk.elim) ho
 rw[hs] at k1
 exact hQ .normal a' w' trivial (hs'.defs.trans h.mdf) (k μ' w' k1)
end
end Go.Proofs.Tryz.Ai
end
section
namespace Go.Proofs.Tryz.Ai
open Go Go.AI Go.RowKit Go.Proofs
set_option maxHeartbeats 8000000
set_option maxRecDepth 4000
set_option linter.unusedVariables false
theorem qmz {P:Program} {hh:Hint} {C:Oracle} {c:Code} {i:Nat} {d:Bool} {ops:Array Oper} {st:St} {K:Ex→St→Prop} (h:c=.region i ops d) (k:Post (EXEC P hh C (.region i ops d) st) K):Post (EXEC P hh C c st) K:=by rw[h];exact k
def fstSeq:Code→Code
 | .seq a _=>a
 | c=>c
noncomputable def parA:Code:=fstSeq (Tryz.f16.body.getD .skip)
noncomputable def parB:Code:=fstSeq (dropSeq 1 (Tryz.f16.body.getD .skip))
def qqb:Oper:=⟨some 14,.makeFunc (.func 49) #[] #[.tmp 2,.tmp 3,.tmp 4],1,"parse.go:209",#[],none⟩
def qwf:Oper:=⟨none,.defer ⟨.value (.tmp 14),#[],#[]⟩,0,"parse.go:209",#[⟨0,.data⟩],none⟩
def parR:Code:=.region 3 #[qqb,qwf] false
theorem want1 (y:Nat→Option Bool):Region.wanted qqb y=true:=rfl
theorem want2 (y:Nat→Option Bool):Region.wanted qwf y=true:=rfl
theorem qm0:Tryz.f16.body=some (.seq parA (.seq parB (.seq parR restC))):=rfl
theorem qwg (text:List UInt8) (s:List (List AV)):Post (EXEC Tryz.prog h16 (EV Tryz.prog H T) parA ⟨params 0 [.str text],[],s⟩) fun e st=>e=.normal∧st=⟨[(0,.str text),(2,.gp s.length 0 (some (27,6))),(3,.gp (s.length+1) 0 (some (3,1))),(4,.gp (s.length+2) 0 (some (30,1)))],[],s++[mfZ,[.int .i64 0],[.int .i64 0]]⟩:=by
 refine qmz (i:=0) (d:=false) (by rfl) ?_
 simp (maxSteps:=4000000) [mfZ]
theorem qqc (text:List UInt8) (ht:65536<text.length) (s:List (List AV)) (s2 s3 s4:Option (TypeId×Nat)):Post (EXEC Tryz.prog h16 (EV Tryz.prog H T) parB ⟨[(0,.str text),(2,.gp s.length 0 s2),(3,.gp (s.length+1) 0 s3),(4,.gp (s.length+2) 0 s4)],[],s++[mfZ,[.int .i64 0],[.int .i64 0]]⟩) fun e st=>e=.ret∧st.t=[(0,.str text),(2,.gp s.length 0 s2),(3,.gp (s.length+1) 0 s3),(4,.gp (s.length+2) 0 s4)]∧st.l=[]∧st.s=s++[mfZ,[.int .i64 0],[.int .i64 13]]:=by
 refine qd4 (by rfl) ?_
 simp (maxSteps:=4000000) [mfZ,ht]
theorem qm1 (text:List UInt8) (ht:¬65536<text.length) (σ:List (List AV)) (b2 b3 b4:Nat) (s2 s3 s4:Option (TypeId×Nat)):Post (EXEC Tryz.prog h16 (EV Tryz.prog H T) parB ⟨[(0,.str text),(2,.gp b2 0 s2),(3,.gp b3 0 s3),(4,.gp b4 0 s4)],[],σ⟩) fun e st=>e=.normal∧st=⟨[(0,.str text),(2,.gp b2 0 s2),(3,.gp b3 0 s3),(4,.gp b4 0 s4),(12,.bool false)],[],σ⟩:=by
 refine qd4 (by rfl) ?_
 simp (maxSteps:=4000000) [ht]
def parseAV (text:List UInt8):AV:=match parseP text with
 | .ok m=>.tup [mfF m,.int .i64 0,.int .i64 0]
 | .error e=>.tup [mfF mf0,.int .i64 e.1,.int .i64 e.2]
def resT (n:Nat):List (Nat×AV):=[(2,.gp n 0 (some (27,6))),(3,.gp (n+1) 0 (some (3,1))),(4,.gp (n+2) 0 (some (30,1)))]
theorem qs8 (s:List (List AV)) (m:Mf) (l e:Int) (J:List (List AV)) :
  bnd (outA Tryz.prog h16 Tryz.f16 ⟨resT s.length,[],s++[mfC m,[.int .i64 l],[.int .i64 e]]++J⟩) (endA Tryz.prog h16 s)=some (.tup [mfF m,.int .i64 l,.int .i64 e],s):=by
 simp (maxSteps:=4000000) [outA,resT,endA,Tryz.results16,mfC,mfF]
theorem qlr (s:List (List AV)) (l e:Int) :
  bnd (outA Tryz.prog h16 Tryz.f16 ⟨resT s.length,[],s++[mfZ,[.int .i64 l],[.int .i64 e]]⟩) (endA Tryz.prog h16 s)=some (.tup [mfF mf0,.int .i64 l,.int .i64 e],s):=by
 simp (maxSteps:=4000000) [outA,resT,endA,Tryz.results16,mfZ,mfF,mfC,mf0]
theorem qyt {μ:Gh} (h:μ.df=[]):({μ with df:=[]}:Gh)=μ:=by rw[← h]
theorem qjm {n i:Nat} {v x:AV} (h:AI.look (resT n) i=some v):AI.look ((0,x)::resT n) i=some v:=by
 simp only[AI.look]
 split
 ·rename_i e;subst e;simp[resT,AI.look] at h
 ·exact h
theorem qm2 {n i:Nat} {v x:AV} (h:AI.look (resT n) i=some v):AI.look ((0,x)::resT n) i=some v:=qjm h
theorem qm3 {n i:Nat} {v:AV} {text:List UInt8} (h:AI.look ((0,.str text)::resT n) i=some v):quiet v=true∧pers v=true:=by
 simp only[resT,AI.look] at h
 split at h
 ·injection h with h;subst h;exact⟨rfl,rfl⟩
 split at h
 ·injection h with h;subst h;exact⟨rfl,rfl⟩
 split at h
 ·injection h with h;subst h;exact⟨rfl,rfl⟩
 split at h
 ·injection h with h;subst h;exact⟨rfl,rfl⟩
 ·cases h
theorem flt_val {B:Nat} {μ:Gh} {w:World} {v:Value} {l e:Int} (h:Rep B μ w v (fltV l e)):v=fltW l e:=by
 unfold fltV at h
 cases h with
 | ifc _ v' _ h =>
  cases h with
  | agg vs _ hl hp hh =>
   obtain⟨l⟩:=vs
   match l,hl with
   | [x,y],_ =>
    have h0:=hh 0 _ rfl
    have h1:=hh 1 _ rfl
    simp at h0 h1
    cases h0;cases h1
    rfl
def stR (text:List UInt8) (n:Nat):List (Nat×AV):=[(0,.str text),(2,.gp n 0 (some (27,6))),(3,.gp (n+1) 0 (some (3,1))),(4,.gp (n+2) 0 (some (30,1))),(12,.bool false)]
theorem qqd (text:List UInt8) (s:List (List AV)):stepOp Tryz.prog h16 (EV Tryz.prog H T) qqb ⟨stR text s.length,[],s++[mfZ,[.int .i64 0],[.int .i64 0]]⟩=some ⟨stR text s.length++[(14,.fn 49 [.gp s.length 0 (some (27,6)),.gp (s.length+1) 0 (some (3,1)),.gp (s.length+2) 0 (some (30,1))])],[],s++[mfZ,[.int .i64 0],[.int .i64 0]]⟩:=by
 unfold qqb
 simp (maxSteps:=4000000) [stR]
theorem qqe {text:List UInt8} {n i:Nat} {v x:AV} (h:AI.look ((0,.str text)::resT n) i=some v):AI.look (stR text n++[(14,x)]) i=some v:=by
 simp only[resT,stR,AI.look,List.cons_append,List.nil_append] at h ⊢
 split at h
 ·rename_i e;rw[if_pos e];exact h
 rename_i e0;rw[if_neg e0]
 split at h
 ·rename_i e;rw[if_pos e];exact h
 rename_i e1;rw[if_neg e1]
 split at h
 ·rename_i e;rw[if_pos e];exact h
 rename_i e2;rw[if_neg e2]
 split at h
 ·rename_i e;rw[if_pos e];exact h
 ·cases h
section
variable {B:Nat} {W0:World}
theorem qkx (hm:Tryz.prog.follows .mixedOrders=true) (hT:TableOk Tryz.prog B W0 T) (text:List UInt8) (s:List (List AV)):ACalls Tryz.prog B W0 16 [.str text] s (parseAV text) s:=by
 have hC:OracleOk Tryz.prog B W0 (EV Tryz.prog H T):=qhe hT (fun _ _=>qaj hm)
 have hP:PanOk Tryz.prog B W0 (PC Tryz.prog H T):=qsd hm hT
 intro T0 μ w vs hsz hW hs
 refine calls_of_wp_defers Tryz.func16 qm0 ?_
 have hw:=hs.wide hsz (n:=37) (by rw[hsz];exact (by decide:1≤37))
 have hact:(⟨vs++Array.replicate (37-vs.size) undef,[]⟩:Act)=⟨vs++Array.replicate (Tryz.f16.ntmps-vs.size) undef,[]⟩:=rfl
 rw[hact] at hw
 have fin:∀{μ':Gh} {lx':Nat→Option Nat} {a':Act} {w':World} {st':St} {r:AV} {ds:List Deferred},Sim B T0 {μ with df:=ds} w 37 μ' lx' a' w' st'→bnd (outA Tryz.prog h16 Tryz.f16 st') (endA Tryz.prog h16 s)=some (r,s) →
   ∃v,(results Tryz.f16 a'.tmps).run Tryz.prog w'=.ok v w'∧∃v2 μ2,Ending.returned v=.returned v2∧Sim B T0 μ w 1 μ2 (fun _=>none) ⟨#[v2],[]⟩ w' ⟨[(0,r)],[],s⟩:=by
  intro μ' lx' a' w' st' r ds hs' ho
  obtain⟨⟨q,sq⟩,ho,he⟩:=qa ho
  obtain⟨v,hv,hq⟩:=qd7 (hs'.unbase hs.mdf) hs.mdf ho
  obtain⟨μ2,ho2⟩:=qgw hs rfl hq he
  exact⟨v,hv,v,μ2,rfl,ho2⟩
 obtain⟨e1,st1,hx1,rfl,rfl⟩:=qwg text s
 obtain⟨m1,hm1⟩:=(qq _).1 hx1
 refine wp_seq (qar hW hC (qaj hm) m1 parA _ hw (by kernel_rfl) hm1 ?_).1
 intro μ1 lx1 a1 w1 hs1
 show Code.wp _ _ _ _ _
 by_cases ht:65536<text.length
 ·obtain⟨e2,st2,hx2,rfl,ht2,hl2,hss2⟩:=qqc text ht s (some (27,6)) (some (3,1)) (some (30,1))
  obtain⟨m2,hm2⟩:=(qq _).1 hx2
  refine wp_seq (qar hW hC (qaj hm) m2 parB _ hs1 (by kernel_rfl) hm2 ?_).1
  intro μ2 lx2 a2 w2 hs2
  have hd:a2.defers=[]:=hs2.defs.trans hs.mdf
  show Leaves _ _ a2.tmps _ a2.defers .returning w2
  rw[hd]
  have hz:({μ with df:=[]}:Gh)=μ:=qyt hs.mdf
  have hs3:=hs2.sub (t':=resT s.length) (l':=[]) (fun i v hi=>by rw[ht2];exact qjm hi) (by simp[resT]) (fun d cs e=>by simp[AI.look] at e)
  rw[hss2] at hs3
  have hp:parseAV text=.tup [mfF mf0,.int .i64 0,.int .i64 13]:=by unfold parseAV parseP;rw[if_pos ht]
  rw[hp]
  exact fin (ds:=[]) (by rw[hz];exact hs3) (qlr s 0 13)
 ·obtain⟨e2,st2,hx2,rfl,rfl⟩:=qm1 text ht (s++[mfZ,[.int .i64 0],[.int .i64 0]]) s.length (s.length+1) (s.length+2) (some (27,6)) (some (3,1)) (some (30,1))
  obtain⟨m2,hm2⟩:=(qq _).1 hx2
  refine wp_seq (qar hW hC (qaj hm) m2 parB _ hs1 (by kernel_rfl) hm2 ?_).1
  intro μ2 lx2 a2 w2 hs2
  refine wp_seq (wp_region_list ?_)
  have hst:=qqd text s
  show wpList _ _ _ [qqb,qwf] a2 w2
  simp only[wpList]
  rw[want1]
  refine .inl (qbn hs2 hW hC (fun n hn=>by have hn:(some 14:Option Nat)=some n:=hn;injection hn with hn;subst hn;decide) hst _ _ fun μ3 lx3 a3 w3 hs3=>?_)
  rw[want2]
  refine .inl (qsf (us:=[.gp s.length 0 (some (27,6)),.gp (s.length+1) 0 (some (3,1)),.gp (s.length+2) 0 (some (30,1))]) (g:=49) rfl rfl hs3 (hs3.defs.trans hs.mdf) rfl fun ps hps hrep hs4=>?_)
  obtain⟨p2,p3,p4,rfl⟩:∃p2 p3 p4,ps=#[p2,p3,p4]:=by
   obtain⟨l⟩:=ps
   match l,hps with
   | [a,b,c],_=>exact⟨a,b,c,rfl⟩
  have r2:=(hrep 0 _ rfl).1
  have r3:=(hrep 1 _ rfl).1
  have r4:=(hrep 2 _ rfl).1
  show Code.wp _ restC _ _ _
  have hs5:=hs4.sub (t':=(0,.str text)::resT s.length) (l':=[]) (fun i v hi=>qqe hi) (by simp[resT]) (fun d cs e=>by simp[AI.look] at e)
  have hE:AI.Enters Tryz.prog 49:=⟨_,Tryz.func49,by kernel_rfl,by kernel_rfl⟩
  have hinv:∀w:World,(invoke (.fn (.func 49) #[p2,p3,p4]) #[]).run Tryz.prog w=.ok (.enter 49 #[p2,p3,p4]) w:=fun w=>by simp[invoke,qau hE]
  have hS2:(s++[mfZ,[.int .i64 0],[.int .i64 0]])[s.length]? = some mfZ:=by simp
  have hS3:(s++[mfZ,[.int .i64 0],[.int .i64 0]])[s.length+1]? = some [.int .i64 0]:=by simp
  have hS4:(s++[mfZ,[.int .i64 0],[.int .i64 0]])[s.length+2]? = some [.int .i64 0]:=by simp
  have hSl:(s++[mfZ,[.int .i64 0],[.int .i64 0]]).length=s.length+3:=by simp
  have pan:∀e:Int×Int,parseAV text=.tup [mfF mf0,.int .i64 e.1,.int .i64 e.2]→(∀σ,PY Tryz.prog h16 (EV Tryz.prog H T) (PC Tryz.prog H T) (PhiP s.length (s.length+1) (s.length+2) (some (27,6)) (some (3,1)) (some (30,1))) restC ⟨(0,.str text)::resT s.length,[],σ⟩ (fltV e.1 e.2)) →
    Code.wp Tryz.prog restC (bodyPostD Tryz.prog Tryz.f16 fun e w'=>∃v μ',e=.returned v∧Sim B T0 μ w 1 μ' (fun _=>none) ⟨#[v],[]⟩ w' ⟨[(0,parseAV text)],[],s⟩) ⟨a3.tmps,[⟨.fn (.func 49) #[p2,p3,p4],#[]⟩]⟩ w3:=by
   intro e hpe hpy
   have hwp:=hs5.wipe ((0,.str text)::resT s.length) (fun _ _ h=>h) (fun i v hi=>qm3 hi) (by simp[resT])
   refine (qsg hm (hW.trans hs5.ext.below) hC hP (hpy _) hwp (by kernel_rfl) ?_).1
   intro t hΦ μ' lx' a' w' st' v h1 h2 h3 h4
   obtain⟨k1,x2⟩:=hs5.unwipe h1
   obtain⟨i1,i2,i3⟩:=hΦ
   rw[← h4] at i1 i2 i3
   have e1:=qkc hs5 h1 rfl i1
   have e2:=qkc hs5 h1 rfl i2
   have e3:=qkc hs5 h1 rfl i3
   have hd:a'.defers=[⟨.fn (.func 49) #[p2,p3,p4],#[]⟩]:=h1.defs
   have k2:=(k1.sub (t':=resT s.length) (l':=[]) (fun i v hi=>qm2 hi) (by simp[resT]) (fun d cs e=>by simp[AI.look] at e)).retmps (a':=a') h1.size hd (fun i v hi=>by
    have hi:AI.look (resT s.length) i=some v:=hi
    simp only[resT,AI.look] at hi
    split at hi
    ·rename_i e;subst e;exact e1
    split at hi
    ·rename_i e;subst e;exact e2
    split at hi
    ·rename_i e;subst e;exact e3
    ·cases hi)
   obtain rfl:v=fltW e.1 e.2:=flt_val (h2.full.rep fun d i e=>by cases e)
   show Leaves _ _ a'.tmps _ a'.defers (.panicking [{v:=fltW e.1 e.2,recovered:=false}]) w'
   rw[hd]
   refine leaves_cons (by simp) (hinv w') ?_
   refine qqa hm hC k2 hW s.length (s.length+1) (s.length+2) (some (27,6)) (some (3,1)) (some (30,1)) e.1 e.2 mfZ 0 0 rfl (by omega) (by omega) (by omega) hS2 hS3 hS4 p2 p3 p4 (r2.mono x2) (r3.mono x2) (r4.mono x2) _ fun μ8 w8 k3=>?_
   show Leaves _ _ a'.tmps _ [] .returning w8
   rw[hpe]
   refine fin k3 ?_
   have:=qlr s e.1 e.2
   simpa using this
  cases hr:readLs ps0 (lnT text) with
  | error e =>
   have hpe:parseAV text=.tup [mfF mf0,.int .i64 e.1,.int .i64 e.2]:=by unfold parseAV parseP;rw[if_neg ht,hr]
   exact pan e hpe fun σ=>qp7 _ _ _ _ _ _ text (by omega) e hr σ
  | ok pE =>
   cases hq:endP pE with
   | error e =>
    have hpe:parseAV text=.tup [mfF mf0,.int .i64 e.1,.int .i64 e.2]:=by unfold parseAV parseP;rw[if_neg ht,hr];simp only[hq]
    exact pan e hpe fun σ=>qp8 _ _ _ _ _ _ text (by omega) pE hr e hq σ
   | ok _ =>
    have hpe:parseAV text=.tup [mfF (canonM pE.f),.int .i64 0,.int .i64 0]:=by unfold parseAV parseP;rw[if_neg ht,hr];simp only[hq]
    rw[hpe]
    obtain⟨e6,st6,hx6,rfl,hΦ,hss6⟩:=qwe s.length (s.length+1) (s.length+2) (some (27,6)) (some (3,1)) (some (30,1)) text (by omega) pE hr hq (s++[mfZ,[.int .i64 0],[.int .i64 0]]) (by rw[hSl];omega) (by rw[hSl];omega) (by rw[hSl];omega) (by omega) (by omega) (by omega) _ _ _ _ _ _ hS2 hS3 hS4
    obtain⟨m6,hm6⟩:=(qq _).1 hx6
    refine (qar hW hC (qaj hm) m6 restC _ hs5 (by kernel_rfl) hm6 ?_).1
    intro μ6 lx6 a6 w6 hs6
    have hd:a6.defers=[⟨.fn (.func 49) #[p2,p3,p4],#[]⟩]:=hs6.defs
    show Leaves _ _ a6.tmps _ a6.defers .returning w6
    rw[hd]
    refine leaves_cons (by simp) (hinv w6) ((qs5 p2 p3 p4 w6).mono fun e u' w' hh=>?_)
    obtain⟨⟨v,rfl⟩,rfl,rfl⟩:=hh
    show Leaves _ _ a6.tmps _ [] .returning w'
    obtain⟨i1,i2,i3⟩:=hΦ
    have hs7:=hs6.sub (t':=resT s.length) (l':=[]) (fun i v hi=>by
     simp only[resT,AI.look] at hi
     split at hi
     ·rename_i e;subst e;injection hi with hi;subst hi;exact i1
     split at hi
     ·rename_i e;subst e;injection hi with hi;subst hi;exact i2
     split at hi
     ·rename_i e;subst e;injection hi with hi;subst hi;exact i3
     ·cases hi) (by simp[resT]) (fun d cs e=>by simp[AI.look] at e)
    rw[hss6] at hs7
    refine fin hs7 ?_
    have:=qs8 s (canonM pE.f) 0 0 [psC {pE with line:=0}]
    simpa using this
end
end Go.Proofs.Tryz.Ai
end
section
namespace Go.Proofs.Tryz.Ai
open Go Go.AI Go.Proofs
set_option maxHeartbeats 8000000
set_option maxRecDepth 4000
set_option linter.unusedVariables false
def modT (m:List UInt8×List UInt8):List UInt8:=if m.2=[] then m.1 else m.1++[32]++m.2
def indT:List UInt8:=[32,47,47,32,105,110,100,105,114,101,99,116]
def rqT (x:Rq):List UInt8:=if x.2.2 then modT (x.1,x.2.1)++indT else modT (x.1,x.2.1)
def arT:List UInt8:=[32,61,62,32]
def rpT (x:Rp):List UInt8:=modT x.1++arT++modT x.2
def rtT (x:Rt):List UInt8:=if x.1=x.2 then x.1 else [91]++x.1++[44,32]++x.2++[93]
def shT (m:List UInt8×List UInt8):Prop:=m.1.length≤2^20∧m.2.length≤2^20
theorem qb2 {m:List UInt8×List UInt8} (h:shT m):(modT m).length≤2^21+1:=by
 obtain⟨h1,h2⟩:=h
 unfold modT
 split
 ·omega
 ·simp;omega
theorem text_eq (m:List UInt8×List UInt8) (h:shT m) (σ):ev 40 [modA m] σ=some (.str (modT m),σ):=by
 obtain⟨m1,m2⟩:=m
 obtain⟨h1,h2⟩:=h
 simp only at h1 h2
 rw[modAx]
 refine qd rfl Tryz.func40 rfl (by simp[Tryz.ntmps40]) (by kernel_rfl) (by kernel_rfl) ?_
 by_cases hv:m2=[]
 ·have hv':(m2==[])=true:=by simpa using hv
  have hT:modT (m1,m2)=m1:=by unfold modT;rw[if_pos hv]
  simp (maxSteps:=4000000) [hv',hT,Tryz.results40]
 ·have hv':(m2==[])=false:=by simpa using hv
  have hT:modT (m1,m2)=m1++[32]++m2:=by unfold modT;rw[if_neg hv]
  obtain⟨t1,ht1⟩:∃t,m1++[32]=t:=⟨_,rfl⟩
  have l1:t1.length=m1.length+1:=by rw[← ht1];simp
  have b1:m1.length+1≤most:=by unfold most;omega
  have b2:t1.length+m2.length≤most:=by unfold most;omega
  rw[ht1] at hT
  simp (maxSteps:=4000000) [-List.append_assoc,hv',b1,ht1,b2,hT,Tryz.results40]
theorem fmt1_eq (x:Rq) (h:shT (x.1,x.2.1)) (σ):ev 39 [rqF x] σ=some (.str (rqT x),σ):=by
 have hof:=qv6 x
 have ht:=text_eq (x.1,x.2.1) h
 have hl:=qb2 h
 obtain⟨x1,x2,x3⟩:=x
 simp only at ht hl
 have hT:rqT (x1,x2,x3)=if x3 then modT (x1,x2)++indT else modT (x1,x2):=rfl
 obtain⟨t,htt⟩:∃t,modT (x1,x2)=t:=⟨_,rfl⟩
 rw[htt] at ht hl hT
 have b1:t.length+12≤most:=by unfold most;omega
 rw[rqFx] at hof ⊢
 rw[modAx] at ht hof
 refine qd rfl Tryz.func39 rfl (by simp[Tryz.ntmps39]) (by kernel_rfl) (by kernel_rfl) ?_
 cases x3 with
 | true =>
  rw[if_pos rfl] at hT
  obtain⟨u,hu⟩:∃u,t++indT=u:=⟨_,rfl⟩
  rw[hu] at hT
  unfold indT at hu
  simp (maxSteps:=4000000) [hof,ht,b1,hu,hT,Tryz.results39]
 | false =>
  rw[if_neg (by simp)] at hT
  simp (maxSteps:=4000000) [hof,ht,hT,Tryz.results39]
theorem fmt2_eq (x:Rp) (h1:shT x.1) (h2:shT x.2) (σ):ev 44 [rpF x] σ=some (.str (rpT x),σ):=by
 have ht1:=text_eq x.1 h1
 have ht2:=text_eq x.2 h2
 have hl1:=qb2 h1
 have hl2:=qb2 h2
 have hT:rpT x=modT x.1++arT++modT x.2:=rfl
 obtain⟨⟨x1,x2⟩,x3,x4⟩:=x
 simp only at ht1 ht2 hl1 hl2 hT
 obtain⟨a,ha⟩:∃t,modT (x1,x2)=t:=⟨_,rfl⟩
 obtain⟨b,hb⟩:∃t,modT (x3,x4)=t:=⟨_,rfl⟩
 rw[ha] at ht1 hl1 hT
 rw[hb] at ht2 hl2 hT
 obtain⟨u,hu⟩:∃u,a++arT=u:=⟨_,rfl⟩
 have hul:u.length=a.length+4:=by rw[← hu];simp[arT]
 rw[hu] at hT
 unfold arT at hu
 have b1:a.length+4≤most:=by unfold most;omega
 have b2:u.length+b.length≤most:=by unfold most;omega
 rw[rpFx]
 rw[modAx] at ht1 ht2
 refine qd rfl Tryz.func44 rfl (by simp[Tryz.ntmps44]) (by kernel_rfl) (by kernel_rfl) ?_
 simp (maxSteps:=4000000) [-qb]
 refine qg [] _ (k:=?_)
 repeat (first|refine qe _ (hs:=by simp (maxSteps:=4000000) [-List.append_assoc,ht1,ht2,b1,b2,hu];exact rfl) (k:=?_)|refine qf _ (k:=?_))
 refine qc ?_
 simp (maxSteps:=4000000) [-List.append_assoc,hT,hu,Tryz.results44]
theorem fmt3_eq (x:Rt) (h:shT x) (σ):ev 46 [rtF x] σ=some (.str (rtT x),σ):=by
 obtain⟨x1,x2⟩:=x
 obtain⟨h1,h2⟩:=h
 simp only at h1 h2
 have hT:rtT (x1,x2)=if x1=x2 then x1 else [91]++x1++[44,32]++x2++[93]:=rfl
 rw[rtFx]
 refine qd rfl Tryz.func46 rfl (by simp[Tryz.ntmps46]) (by kernel_rfl) (by kernel_rfl) ?_
 by_cases he:x1=x2
 ·rw[if_pos he] at hT
  have he':(x1==x2)=true:=by simpa using he
  simp (maxSteps:=4000000) [-beq_iff_eq,he',hT,Tryz.results46]
 ·rw[if_neg he] at hT
  have he':(x1==x2)=false:=by simpa using he
  obtain⟨t1,ht1⟩:∃t,[91]++x1=t:=⟨_,rfl⟩
  have l1:t1.length=x1.length+1:=by rw[← ht1];simp
  have ht1':91::x1=t1:=ht1
  obtain⟨t2,ht2⟩:∃t,t1++[44,32]=t:=⟨_,rfl⟩
  have l2:t2.length=x1.length+3:=by rw[← ht2];simp[l1]
  obtain⟨t3,ht3⟩:∃t,t2++x2=t:=⟨_,rfl⟩
  have l3:t3.length=x1.length+3+x2.length:=by rw[← ht3];simp[l2]
  obtain⟨t4,ht4⟩:∃t,t3++[93]=t:=⟨_,rfl⟩
  rw[ht1,ht2,ht3,ht4] at hT
  have b1:x1.length+1≤most:=by unfold most;omega
  have b1':1+x1.length≤most:=by unfold most;omega
  have b2:t1.length+2≤most:=by unfold most;omega
  have b3:t2.length+x2.length≤most:=by unfold most;omega
  have b4:t3.length+1≤most:=by unfold most;omega
  simp (maxSteps:=4000000) [-List.append_assoc,-beq_eq_false_iff_ne,he',b1,b1',b2,b3,b4,ht1,ht1',ht2,ht3,ht4,hT,Tryz.results46]
def rowT (s:List UInt8):List UInt8:=[9]++s++[10]
def blkT (w:List UInt8) (ls:List (List UInt8)):List UInt8:=if ls=[] then [] else [10]++w++[32,40,10]++ls.flatMap rowT++[41,10]
theorem flat_row:∀{ls:List (List UInt8)},(∀s∈ls,s.length≤2^23)→(ls.flatMap rowT).length≤ls.length*2^24
 | [],_=>by simp
 | s::r,h=>by
  have h1:=h s (List.mem_cons_self ..)
  have h2:=flat_row (ls:=r) fun y hy=>h y (List.mem_cons_of_mem _ hy)
  rw[List.flatMap_cons,List.length_append,List.length_cons]
  have:(rowT s).length=s.length+2:=by simp[rowT]
  omega
def blkI {α:Type} (L:List α) (line:α→List UInt8) (a:List UInt8) (i:Nat) (t:List UInt8):Prop:=i≤L.length∧t=a++((L.map line).take i).flatMap rowT
theorem qqf (b:Nat) (o:Option (List UInt8)) (σ:List (List AV)) (hb:σ[b]? = some (bc b o)) (w:List UInt8) (hw:w.length≤100) (L:List (Rq)) (hL:L.length≤200) (ho:(txt o).length≤2^36) (g:FuncId) (hg:g<100000) (line:Rq→List UInt8)
  (h:∀x∈L,(line x).length≤2^23∧∀σ,ev g [rqF x] σ=some (.str (line x),σ)) :
  ev 38 [.gp b 0 (some (SB,2)),.str w,.sl .sh (L.map rqF),.fn g []] σ=some (.tup [],σ.set b (bc b (if L=[] then o else some (txt o++blkT w (L.map line))))):=by
 have hbl:=(List.getElem?_eq_some_iff.1 hb).1
 refine qd rfl Tryz.func38 rfl (by simp[Tryz.ntmps38]) (by kernel_rfl) (by kernel_rfl) ?_
 by_cases h0:L=[]
 ·subst h0
  have hs:σ.set b (bc b o)=σ:=List.ext_getElem? fun i=>by
   rw[List.getElem?_set]
   split
   ·rename_i e;subst e;first|exact hb.symm|simp[hbl,hb]
   ·rfl
  rw[if_pos rfl,hs]
  simp (maxSteps:=4000000) [Tryz.results38]
 ·have hLl:0<L.length:=List.length_pos_iff.2 h0
  have hLn:¬L.length=0:=by omega
  rw[if_neg h0]
  obtain⟨t0,ht0⟩:∃t,[10]++w=t:=⟨_,rfl⟩
  have ht0':10::w=t0:=ht0
  have l0:t0.length=w.length+1:=by rw[← ht0];simp
  obtain⟨t1,ht1⟩:∃t,t0++[32,40,10]=t:=⟨_,rfl⟩
  have l1:t1.length=w.length+4:=by rw[← ht1];simp[l0]
  have c0:1+w.length≤most:=by unfold most;omega
  have c0':w.length+1≤most:=by unfold most;omega
  have c1:t0.length+3≤most:=by unfold most;omega
  have hW1:=qy b σ o t1 (by unfold most;omega) hb
  obtain⟨a,ha⟩:∃a,txt o++t1=a:=⟨_,rfl⟩
  have hal:a.length≤2^37:=by rw[← ha];simp;omega
  rw[ha] at hW1
  have hfin:txt o++blkT w (L.map line)=a++(L.map line).flatMap rowT++[41,10]:=by
   unfold blkT
   rw[if_neg (by simpa using h0),← ha,← ht1,← ht0];simp
  have hall:allCells 3 (L.map rqF):=by simp
  simp only[SB] at hW1 ⊢
  simp (maxSteps:=4000000) [-List.append_assoc,-Prod.exists,-Prod.forall,hLn,h0,c0,c0',c1,ht0,ht0',ht1,hW1]
  refine qn (I:=fun p:Nat×List UInt8=>⟨[(0,.gp b 0 (some (87,2))),(3,.fn g []),(18,.sl .sh (L.map rqF)),(19,.int .i64 L.length),(20,.int .i64 p.1)],[],σ.set b (bc b (some p.2))⟩)
   (Pr:=fun p=>blkI L line a p.1 p.2) (μ:=fun p=>L.length-p.1) (a:=(0,a)) (by simp) ⟨by simp,by simp⟩ ?_
  rintro⟨i,t⟩ ⟨hi,ht⟩
  simp only at hi ht ⊢
  have w1:IntKind.i64.wrap ((i:Int)+1)=(i:Int)+1:=qk (by omega)
  have htl:t.length≤2^38:=by
   have:=flat_row (ls:=(L.map line).take i) fun s hs=>by
    obtain⟨x,hx,rfl⟩:=List.mem_map.1 (List.mem_of_mem_take hs)
    exact (h x hx).1
   have h2:((L.map line).take i).length≤200:=by simp;omega
   have h3:=Nat.le_trans this (Nat.mul_le_mul_right _ h2)
   rw[ht,List.length_append];omega
  have hbt:(σ.set b (bc b (some t)))[b]? = some (bc b (some t)):=qbj hbl _
  by_cases hc:i<L.length
  ·obtain⟨x,hx⟩:∃x,L[i]? = some x:=⟨_,List.getElem?_eq_getElem hc⟩
   obtain⟨hll,hE⟩:=h x (List.mem_of_getElem? hx)
   have hnx:blkI L line a (i+1) (t++rowT (line x)):=⟨by omega,by
    rw[ht,List.take_add_one,List.getElem?_map,hx,List.flatMap_append];simp⟩
   obtain⟨s,hs⟩:∃s,line x=s:=⟨_,rfl⟩
   rw[hs] at hll hE hnx
   clear hs
   obtain⟨x1,x2,x3⟩:=x
   rw[rqFx] at hE
   obtain⟨u0,hu0⟩:∃u,[9]++s=u:=⟨_,rfl⟩
   have hu0':9::s=u0:=hu0
   have k0:u0.length=s.length+1:=by rw[← hu0];simp
   obtain⟨u1,hu1⟩:∃u,u0++[10]=u:=⟨_,rfl⟩
   have k1:u1.length=s.length+2:=by rw[← hu1];simp[k0]
   have d0:1+s.length≤most:=by unfold most;omega
   have d0':s.length+1≤most:=by unfold most;omega
   have d1:u0.length+1≤most:=by unfold most;omega
   have hrw:rowT s=u1:=by unfold rowT;rw[hu0,hu1]
   rw[hrw] at hnx
   have hW:=qy b (σ.set b (bc b (some t))) (some t) u1 (by simp only[txt_some];unfold most;omega) hbt
   simp only[txt_some,List.set_set,SB] at hW
   obtain⟨t',ht'⟩:∃t',t++u1=t':=⟨_,rfl⟩
   rw[ht'] at hW hnx
   simp (maxSteps:=4000000) [-getElem?_pos,-List.append_assoc,-Prod.exists,-Prod.forall,hc,hx,rqFx,hg,hE,d0,d0',d1,hu0,hu0',hu1,hW,w1]
   exact⟨(i+1,t'),hnx,by simp;omega,by simp⟩
  ·have hie:(L.map line).take i=L.map line:=List.take_of_length_le (by simp;omega)
   rw[hie] at ht
   have hW:=qy b (σ.set b (bc b (some t))) (some t) [41,10] (by simp only[txt_some];unfold most;simp;omega) hbt
   simp only[txt_some,List.set_set,SB] at hW
   rw[hfin,← ht]
   obtain⟨t',ht'⟩:∃t',t++[41,10]=t':=⟨_,rfl⟩
   rw[ht'] at hW ⊢
   simp (maxSteps:=4000000) [-List.append_assoc,hc,hW,Tryz.results38]
   rw[ql (qew (by simp only[qhy];exact .inr hbl))]
theorem qqg (b:Nat) (o:Option (List UInt8)) (σ:List (List AV)) (hb:σ[b]? = some (bc b o)) (w:List UInt8) (hw:w.length≤100) (L:List (List UInt8×List UInt8)) (hL:L.length≤200) (ho:(txt o).length≤2^36) (g:FuncId) (hg:g<100000) (line:List UInt8×List UInt8→List UInt8)
  (h:∀x∈L,(line x).length≤2^23∧∀σ,ev g [modA x] σ=some (.str (line x),σ)) :
  ev 42 [.gp b 0 (some (SB,2)),.str w,.sl .sh (L.map modA),.fn g []] σ=some (.tup [],σ.set b (bc b (if L=[] then o else some (txt o++blkT w (L.map line))))):=by
 have hbl:=(List.getElem?_eq_some_iff.1 hb).1
 refine qd rfl Tryz.func42 rfl (by simp[Tryz.ntmps42]) (by kernel_rfl) (by kernel_rfl) ?_
 by_cases h0:L=[]
 ·subst h0
  have hs:σ.set b (bc b o)=σ:=List.ext_getElem? fun i=>by
   rw[List.getElem?_set]
   split
   ·rename_i e;subst e;first|exact hb.symm|simp[hbl,hb]
   ·rfl
  rw[if_pos rfl,hs]
  simp (maxSteps:=4000000) [Tryz.results42]
 ·have hLl:0<L.length:=List.length_pos_iff.2 h0
  have hLn:¬L.length=0:=by omega
  rw[if_neg h0]
  obtain⟨t0,ht0⟩:∃t,[10]++w=t:=⟨_,rfl⟩
  have ht0':10::w=t0:=ht0
  have l0:t0.length=w.length+1:=by rw[← ht0];simp
  obtain⟨t1,ht1⟩:∃t,t0++[32,40,10]=t:=⟨_,rfl⟩
  have l1:t1.length=w.length+4:=by rw[← ht1];simp[l0]
  have c0:1+w.length≤most:=by unfold most;omega
  have c0':w.length+1≤most:=by unfold most;omega
  have c1:t0.length+3≤most:=by unfold most;omega
  have hW1:=qy b σ o t1 (by unfold most;omega) hb
  obtain⟨a,ha⟩:∃a,txt o++t1=a:=⟨_,rfl⟩
  have hal:a.length≤2^37:=by rw[← ha];simp;omega
  rw[ha] at hW1
  have hfin:txt o++blkT w (L.map line)=a++(L.map line).flatMap rowT++[41,10]:=by
   unfold blkT
   rw[if_neg (by simpa using h0),← ha,← ht1,← ht0];simp
  have hall:allCells 2 (L.map modA):=by simp
  simp only[SB] at hW1 ⊢
  simp (maxSteps:=4000000) [-List.append_assoc,-Prod.exists,-Prod.forall,hLn,h0,c0,c0',c1,ht0,ht0',ht1,hW1]
  refine qn (I:=fun p:Nat×List UInt8=>⟨[(0,.gp b 0 (some (87,2))),(3,.fn g []),(18,.sl .sh (L.map modA)),(19,.int .i64 L.length),(20,.int .i64 p.1)],[],σ.set b (bc b (some p.2))⟩)
   (Pr:=fun p=>blkI L line a p.1 p.2) (μ:=fun p=>L.length-p.1) (a:=(0,a)) (by simp) ⟨by simp,by simp⟩ ?_
  rintro⟨i,t⟩ ⟨hi,ht⟩
  simp only at hi ht ⊢
  have w1:IntKind.i64.wrap ((i:Int)+1)=(i:Int)+1:=qk (by omega)
  have htl:t.length≤2^38:=by
   have:=flat_row (ls:=(L.map line).take i) fun s hs=>by
    obtain⟨x,hx,rfl⟩:=List.mem_map.1 (List.mem_of_mem_take hs)
    exact (h x hx).1
   have h2:((L.map line).take i).length≤200:=by simp;omega
   have h3:=Nat.le_trans this (Nat.mul_le_mul_right _ h2)
   rw[ht,List.length_append];omega
  have hbt:(σ.set b (bc b (some t)))[b]? = some (bc b (some t)):=qbj hbl _
  by_cases hc:i<L.length
  ·obtain⟨x,hx⟩:∃x,L[i]? = some x:=⟨_,List.getElem?_eq_getElem hc⟩
   obtain⟨hll,hE⟩:=h x (List.mem_of_getElem? hx)
   have hnx:blkI L line a (i+1) (t++rowT (line x)):=⟨by omega,by
    rw[ht,List.take_add_one,List.getElem?_map,hx,List.flatMap_append];simp⟩
   obtain⟨s,hs⟩:∃s,line x=s:=⟨_,rfl⟩
   rw[hs] at hll hE hnx
   clear hs
   obtain⟨x1,x2⟩:=x
   rw[modAx] at hE
   obtain⟨u0,hu0⟩:∃u,[9]++s=u:=⟨_,rfl⟩
   have hu0':9::s=u0:=hu0
   have k0:u0.length=s.length+1:=by rw[← hu0];simp
   obtain⟨u1,hu1⟩:∃u,u0++[10]=u:=⟨_,rfl⟩
   have k1:u1.length=s.length+2:=by rw[← hu1];simp[k0]
   have d0:1+s.length≤most:=by unfold most;omega
   have d0':s.length+1≤most:=by unfold most;omega
   have d1:u0.length+1≤most:=by unfold most;omega
   have hrw:rowT s=u1:=by unfold rowT;rw[hu0,hu1]
   rw[hrw] at hnx
   have hW:=qy b (σ.set b (bc b (some t))) (some t) u1 (by simp only[txt_some];unfold most;omega) hbt
   simp only[txt_some,List.set_set,SB] at hW
   obtain⟨t',ht'⟩:∃t',t++u1=t':=⟨_,rfl⟩
   rw[ht'] at hW hnx
   simp (maxSteps:=4000000) [-getElem?_pos,-List.append_assoc,-Prod.exists,-Prod.forall,hc,hx,modAx,hg,hE,d0,d0',d1,hu0,hu0',hu1,hW,w1]
   exact⟨(i+1,t'),hnx,by simp;omega,by simp⟩
  ·have hie:(L.map line).take i=L.map line:=List.take_of_length_le (by simp;omega)
   rw[hie] at ht
   have hW:=qy b (σ.set b (bc b (some t))) (some t) [41,10] (by simp only[txt_some];unfold most;simp;omega) hbt
   simp only[txt_some,List.set_set,SB] at hW
   rw[hfin,← ht]
   obtain⟨t',ht'⟩:∃t',t++[41,10]=t':=⟨_,rfl⟩
   rw[ht'] at hW ⊢
   simp (maxSteps:=4000000) [-List.append_assoc,hc,hW,Tryz.results42]
   rw[ql (qew (by simp only[qhy];exact .inr hbl))]
theorem qqh (b:Nat) (o:Option (List UInt8)) (σ:List (List AV)) (hb:σ[b]? = some (bc b o)) (w:List UInt8) (hw:w.length≤100) (L:List (Rp)) (hL:L.length≤200) (ho:(txt o).length≤2^36) (g:FuncId) (hg:g<100000) (line:Rp→List UInt8)
  (h:∀x∈L,(line x).length≤2^23∧∀σ,ev g [rpF x] σ=some (.str (line x),σ)) :
  ev 43 [.gp b 0 (some (SB,2)),.str w,.sl .sh (L.map rpF),.fn g []] σ=some (.tup [],σ.set b (bc b (if L=[] then o else some (txt o++blkT w (L.map line))))):=by
 have hbl:=(List.getElem?_eq_some_iff.1 hb).1
 refine qd rfl Tryz.func43 rfl (by simp[Tryz.ntmps43]) (by kernel_rfl) (by kernel_rfl) ?_
 by_cases h0:L=[]
 ·subst h0
  have hs:σ.set b (bc b o)=σ:=List.ext_getElem? fun i=>by
   rw[List.getElem?_set]
   split
   ·rename_i e;subst e;first|exact hb.symm|simp[hbl,hb]
   ·rfl
  rw[if_pos rfl,hs]
  simp (maxSteps:=4000000) [Tryz.results43]
 ·have hLl:0<L.length:=List.length_pos_iff.2 h0
  have hLn:¬L.length=0:=by omega
  rw[if_neg h0]
  obtain⟨t0,ht0⟩:∃t,[10]++w=t:=⟨_,rfl⟩
  have ht0':10::w=t0:=ht0
  have l0:t0.length=w.length+1:=by rw[← ht0];simp
  obtain⟨t1,ht1⟩:∃t,t0++[32,40,10]=t:=⟨_,rfl⟩
  have l1:t1.length=w.length+4:=by rw[← ht1];simp[l0]
  have c0:1+w.length≤most:=by unfold most;omega
  have c0':w.length+1≤most:=by unfold most;omega
  have c1:t0.length+3≤most:=by unfold most;omega
  have hW1:=qy b σ o t1 (by unfold most;omega) hb
  obtain⟨a,ha⟩:∃a,txt o++t1=a:=⟨_,rfl⟩
  have hal:a.length≤2^37:=by rw[← ha];simp;omega
  rw[ha] at hW1
  have hfin:txt o++blkT w (L.map line)=a++(L.map line).flatMap rowT++[41,10]:=by
   unfold blkT
   rw[if_neg (by simpa using h0),← ha,← ht1,← ht0];simp
  have hall:allCells 4 (L.map rpF):=by simp
  simp only[SB] at hW1 ⊢
  simp (maxSteps:=4000000) [-List.append_assoc,-Prod.exists,-Prod.forall,hLn,h0,c0,c0',c1,ht0,ht0',ht1,hW1]
  refine qn (I:=fun p:Nat×List UInt8=>⟨[(0,.gp b 0 (some (87,2))),(3,.fn g []),(18,.sl .sh (L.map rpF)),(19,.int .i64 L.length),(20,.int .i64 p.1)],[],σ.set b (bc b (some p.2))⟩)
   (Pr:=fun p=>blkI L line a p.1 p.2) (μ:=fun p=>L.length-p.1) (a:=(0,a)) (by simp) ⟨by simp,by simp⟩ ?_
  rintro⟨i,t⟩ ⟨hi,ht⟩
  simp only at hi ht ⊢
  have w1:IntKind.i64.wrap ((i:Int)+1)=(i:Int)+1:=qk (by omega)
  have htl:t.length≤2^38:=by
   have:=flat_row (ls:=(L.map line).take i) fun s hs=>by
    obtain⟨x,hx,rfl⟩:=List.mem_map.1 (List.mem_of_mem_take hs)
    exact (h x hx).1
   have h2:((L.map line).take i).length≤200:=by simp;omega
   have h3:=Nat.le_trans this (Nat.mul_le_mul_right _ h2)
   rw[ht,List.length_append];omega
  have hbt:(σ.set b (bc b (some t)))[b]? = some (bc b (some t)):=qbj hbl _
  by_cases hc:i<L.length
  ·obtain⟨x,hx⟩:∃x,L[i]? = some x:=⟨_,List.getElem?_eq_getElem hc⟩
   obtain⟨hll,hE⟩:=h x (List.mem_of_getElem? hx)
   have hnx:blkI L line a (i+1) (t++rowT (line x)):=⟨by omega,by
    rw[ht,List.take_add_one,List.getElem?_map,hx,List.flatMap_append];simp⟩
   obtain⟨s,hs⟩:∃s,line x=s:=⟨_,rfl⟩
   rw[hs] at hll hE hnx
   clear hs
   obtain⟨⟨x1,x2⟩,x3,x4⟩:=x
   rw[rpFx] at hE
   obtain⟨u0,hu0⟩:∃u,[9]++s=u:=⟨_,rfl⟩
   have hu0':9::s=u0:=hu0
   have k0:u0.length=s.length+1:=by rw[← hu0];simp
   obtain⟨u1,hu1⟩:∃u,u0++[10]=u:=⟨_,rfl⟩
   have k1:u1.length=s.length+2:=by rw[← hu1];simp[k0]
   have d0:1+s.length≤most:=by unfold most;omega
   have d0':s.length+1≤most:=by unfold most;omega
   have d1:u0.length+1≤most:=by unfold most;omega
   have hrw:rowT s=u1:=by unfold rowT;rw[hu0,hu1]
   rw[hrw] at hnx
   have hW:=qy b (σ.set b (bc b (some t))) (some t) u1 (by simp only[txt_some];unfold most;omega) hbt
   simp only[txt_some,List.set_set,SB] at hW
   obtain⟨t',ht'⟩:∃t',t++u1=t':=⟨_,rfl⟩
   rw[ht'] at hW hnx
   simp (maxSteps:=4000000) [-getElem?_pos,-List.append_assoc,-Prod.exists,-Prod.forall,hc,hx,rpFx,hg,hE,d0,d0',d1,hu0,hu0',hu1,hW,w1]
   exact⟨(i+1,t'),hnx,by simp;omega,by simp⟩
  ·have hie:(L.map line).take i=L.map line:=List.take_of_length_le (by simp;omega)
   rw[hie] at ht
   have hW:=qy b (σ.set b (bc b (some t))) (some t) [41,10] (by simp only[txt_some];unfold most;simp;omega) hbt
   simp only[txt_some,List.set_set,SB] at hW
   rw[hfin,← ht]
   obtain⟨t',ht'⟩:∃t',t++[41,10]=t':=⟨_,rfl⟩
   rw[ht'] at hW ⊢
   simp (maxSteps:=4000000) [-List.append_assoc,hc,hW,Tryz.results43]
   rw[ql (qew (by simp only[qhy];exact .inr hbl))]
theorem qqi (b:Nat) (o:Option (List UInt8)) (σ:List (List AV)) (hb:σ[b]? = some (bc b o)) (w:List UInt8) (hw:w.length≤100) (L:List (Rt)) (hL:L.length≤200) (ho:(txt o).length≤2^36) (g:FuncId) (hg:g<100000) (line:Rt→List UInt8)
  (h:∀x∈L,(line x).length≤2^23∧∀σ,ev g [rtF x] σ=some (.str (line x),σ)) :
  ev 45 [.gp b 0 (some (SB,2)),.str w,.sl .sh (L.map rtF),.fn g []] σ=some (.tup [],σ.set b (bc b (if L=[] then o else some (txt o++blkT w (L.map line))))):=by
 have hbl:=(List.getElem?_eq_some_iff.1 hb).1
 refine qd rfl Tryz.func45 rfl (by simp[Tryz.ntmps45]) (by kernel_rfl) (by kernel_rfl) ?_
 by_cases h0:L=[]
 ·subst h0
  have hs:σ.set b (bc b o)=σ:=List.ext_getElem? fun i=>by
   rw[List.getElem?_set]
   split
   ·rename_i e;subst e;first|exact hb.symm|simp[hbl,hb]
   ·rfl
  rw[if_pos rfl,hs]
  simp (maxSteps:=4000000) [Tryz.results45]
 ·have hLl:0<L.length:=List.length_pos_iff.2 h0
  have hLn:¬L.length=0:=by omega
  rw[if_neg h0]
  obtain⟨t0,ht0⟩:∃t,[10]++w=t:=⟨_,rfl⟩
  have ht0':10::w=t0:=ht0
  have l0:t0.length=w.length+1:=by rw[← ht0];simp
  obtain⟨t1,ht1⟩:∃t,t0++[32,40,10]=t:=⟨_,rfl⟩
  have l1:t1.length=w.length+4:=by rw[← ht1];simp[l0]
  have c0:1+w.length≤most:=by unfold most;omega
  have c0':w.length+1≤most:=by unfold most;omega
  have c1:t0.length+3≤most:=by unfold most;omega
  have hW1:=qy b σ o t1 (by unfold most;omega) hb
  obtain⟨a,ha⟩:∃a,txt o++t1=a:=⟨_,rfl⟩
  have hal:a.length≤2^37:=by rw[← ha];simp;omega
  rw[ha] at hW1
  have hfin:txt o++blkT w (L.map line)=a++(L.map line).flatMap rowT++[41,10]:=by
   unfold blkT
   rw[if_neg (by simpa using h0),← ha,← ht1,← ht0];simp
  have hall:allCells 2 (L.map rtF):=by simp
  simp only[SB] at hW1 ⊢
  simp (maxSteps:=4000000) [-List.append_assoc,-Prod.exists,-Prod.forall,hLn,h0,c0,c0',c1,ht0,ht0',ht1,hW1]
  refine qn (I:=fun p:Nat×List UInt8=>⟨[(0,.gp b 0 (some (87,2))),(3,.fn g []),(18,.sl .sh (L.map rtF)),(19,.int .i64 L.length),(20,.int .i64 p.1)],[],σ.set b (bc b (some p.2))⟩)
   (Pr:=fun p=>blkI L line a p.1 p.2) (μ:=fun p=>L.length-p.1) (a:=(0,a)) (by simp) ⟨by simp,by simp⟩ ?_
  rintro⟨i,t⟩ ⟨hi,ht⟩
  simp only at hi ht ⊢
  have w1:IntKind.i64.wrap ((i:Int)+1)=(i:Int)+1:=qk (by omega)
  have htl:t.length≤2^38:=by
   have:=flat_row (ls:=(L.map line).take i) fun s hs=>by
    obtain⟨x,hx,rfl⟩:=List.mem_map.1 (List.mem_of_mem_take hs)
    exact (h x hx).1
   have h2:((L.map line).take i).length≤200:=by simp;omega
   have h3:=Nat.le_trans this (Nat.mul_le_mul_right _ h2)
   rw[ht,List.length_append];omega
  have hbt:(σ.set b (bc b (some t)))[b]? = some (bc b (some t)):=qbj hbl _
  by_cases hc:i<L.length
  ·obtain⟨x,hx⟩:∃x,L[i]? = some x:=⟨_,List.getElem?_eq_getElem hc⟩
   obtain⟨hll,hE⟩:=h x (List.mem_of_getElem? hx)
   have hnx:blkI L line a (i+1) (t++rowT (line x)):=⟨by omega,by
    rw[ht,List.take_add_one,List.getElem?_map,hx,List.flatMap_append];simp⟩
   obtain⟨s,hs⟩:∃s,line x=s:=⟨_,rfl⟩
   rw[hs] at hll hE hnx
   clear hs
   obtain⟨x1,x2⟩:=x
   rw[rtFx] at hE
   obtain⟨u0,hu0⟩:∃u,[9]++s=u:=⟨_,rfl⟩
   have hu0':9::s=u0:=hu0
   have k0:u0.length=s.length+1:=by rw[← hu0];simp
   obtain⟨u1,hu1⟩:∃u,u0++[10]=u:=⟨_,rfl⟩
   have k1:u1.length=s.length+2:=by rw[← hu1];simp[k0]
   have d0:1+s.length≤most:=by unfold most;omega
   have d0':s.length+1≤most:=by unfold most;omega
   have d1:u0.length+1≤most:=by unfold most;omega
   have hrw:rowT s=u1:=by unfold rowT;rw[hu0,hu1]
   rw[hrw] at hnx
   have hW:=qy b (σ.set b (bc b (some t))) (some t) u1 (by simp only[txt_some];unfold most;omega) hbt
   simp only[txt_some,List.set_set,SB] at hW
   obtain⟨t',ht'⟩:∃t',t++u1=t':=⟨_,rfl⟩
   rw[ht'] at hW hnx
   simp (maxSteps:=4000000) [-getElem?_pos,-List.append_assoc,-Prod.exists,-Prod.forall,hc,hx,rtFx,hg,hE,d0,d0',d1,hu0,hu0',hu1,hW,w1]
   exact⟨(i+1,t'),hnx,by simp;omega,by simp⟩
  ·have hie:(L.map line).take i=L.map line:=List.take_of_length_le (by simp;omega)
   rw[hie] at ht
   have hW:=qy b (σ.set b (bc b (some t))) (some t) [41,10] (by simp only[txt_some];unfold most;simp;omega) hbt
   simp only[txt_some,List.set_set,SB] at hW
   rw[hfin,← ht]
   obtain⟨t',ht'⟩:∃t',t++[41,10]=t':=⟨_,rfl⟩
   rw[ht'] at hW ⊢
   simp (maxSteps:=4000000) [-List.append_assoc,hc,hW,Tryz.results45]
   rw[ql (qew (by simp only[qhy];exact .inr hbl))]
end Go.Proofs.Tryz.Ai
end
section
namespace Go.Proofs.Tryz.Ai
open Go Go.AI Go.Proofs
set_option maxHeartbeats 8000000
set_option maxRecDepth 4000
set_option linter.unusedVariables false
theorem LenB (b:Nat) (σ:List (List AV)) (o:Option (List UInt8)) (hb:σ[b]? = some (bc b o)) :
  ev 47 [.gp b 0 (some (SB,2))] σ=some (.int .i64 (txt o).length,σ):=by
 refine qd rfl Tryz.func47 rfl (by simp[Tryz.ntmps47]) (by kernel_rfl) (by kernel_rfl) ?_
 cases o with
 | none =>
  simp only[bc,txt_none] at hb ⊢
  simp (maxSteps:=4000000) (disch:=omega) [dT,dF,qk,-getElem?_pos,List.getElem?_cons_zero,List.getElem?_cons_succ,hb,Tryz.results47,SB,U8]
 | some l =>
  simp only[bc,txt_some] at hb ⊢
  simp (maxSteps:=4000000) (disch:=omega) [dT,dF,qk,-getElem?_pos,List.getElem?_cons_zero,List.getElem?_cons_succ,hb,Tryz.results47,SB,U8]
def moT:List UInt8:=[109,111,100,117,108,101,32]
def gT:List UInt8:=[10,103,111,32]
def goL (g:List UInt8):List UInt8:=if g=[] then [] else gT++g++[10]
def rqWd:List UInt8:=[114,101,113,117,105,114,101]
def exWd:List UInt8:=[101,120,99,108,117,100,101]
def rpWd:List UInt8:=[114,101,112,108,97,99,101]
def rtWd:List UInt8:=[114,101,116,114,97,99,116]
def fmtM (f:Mf):List UInt8:=moT++f.m++[10]++goL f.g++blkT rqWd (f.rq.map rqT)++blkT exWd (f.ex.map modT)++blkT rpWd (f.rp.map rpT)++blkT rtWd (f.rt.map rtT)
def fmtP (f:Mf):List UInt8×Int:=if mfE f≠0 then ([],mfE f) else if 65536<(fmtM (canonM f)).length then ([],13) else (fmtM (canonM f),0)
structure MfS (f:Mf):Prop where
 m:f.m.length≤2^20
 g:f.g.length≤2^20
 rq:∀x∈f.rq,shT (x.1,x.2.1)
 ex:∀x∈f.ex,shT x
 rp:∀x∈f.rp,shT x.1∧shT x.2
 rt:∀x∈f.rt,shT x
theorem MfS.canon {f:Mf} (h:MfS f):MfS (canonM f):=⟨h.m,h.g,fun x hx=>h.rq x (qby.1 hx),fun x hx=>h.ex x (qby.1 hx),fun x hx=>h.rp x (qby.1 hx),fun x hx=>h.rt x (qby.1 hx)⟩
theorem qbe {a b:Int} (h:orI a b=0):a=0∧b=0:=by
 unfold orI at h
 split at h
 ·exact⟨by assumption,h⟩
 ·exact absurd h (by assumption)
structure MfG (f:Mf):Prop where
 path:pathB f.m=0
 go:f.g=[]∨minorB f.g≠none
 most:f.rq.length≤200∧f.ex.length≤200∧f.rp.length≤200∧f.rt.length≤200
 rq:rqsF f.m [] f.rq=0
 ex:eachE (fun x=>(checkB x.1 x.2:Int)) isM f.ex=0
 rp:eachE rpE (fun x y=>isM x.1 y.1) f.rp=0
 rt:eachE rtE isM f.rt=0
theorem qs9 {f:Mf} (h:mfE f=0):MfG f:=by
 obtain⟨h1,h2⟩:=qbe h
 obtain⟨h2,h3⟩:=qbe h2
 obtain⟨a1,a2⟩:=qbe h1
 obtain⟨a2,a3⟩:=qbe a2
 obtain⟨a3,_⟩:=qbe a3
 obtain⟨b1,b2⟩:=qbe h3
 obtain⟨b2,b3⟩:=qbe b2
 obtain⟨b3,_⟩:=qbe b3
 refine⟨by omega,?_,?_,h2,b1,b2,b3⟩
 ·by_cases hg:f.g=[]
  ·exact .inl hg
  ·right;intro hn
   rw[if_pos ⟨hg,hn⟩] at a2;cases a2
 ·have:¬200<mostM f:=fun hq=>by rw[if_pos hq] at a3;cases a3
  unfold mostM mxI at this
  (repeat' split at this)<;>omega
theorem blk_len {w:List UInt8} {ls:List (List UInt8)} (hw:w.length≤100) (hl:ls.length≤200) (h:∀s∈ls,s.length≤2^23):(blkT w ls).length≤2^33:=by
 unfold blkT
 split
 ·simp
 ·have h1:=flat_row h
  have h2:=Nat.le_trans h1 (Nat.mul_le_mul_right _ hl)
  simp only[List.length_append,List.length_cons,List.length_nil]
  omega
theorem blk_step {α:Type} (o:Option (List UInt8)) (w:List UInt8) (L:List α) (line:α→List UInt8):∃o',(if L=[] then o else some (txt o++blkT w (L.map line)))=o'∧txt o'=txt o++blkT w (L.map line):=by
 refine⟨_,rfl,?_⟩
 split
 ·rename_i h;subst h;simp[blkT]
 ·rfl
theorem qc1 (σ:List (List AV)) (x y:List AV):(σ++[x]).set σ.length y=σ++[y]:=by simp
theorem qqj {x:Rq} (h:shT (x.1,x.2.1)):(rqT x).length≤2^23:=by
 have:=qb2 h
 unfold rqT
 split
 ·simp only[List.length_append,indT,List.length_cons,List.length_nil];omega
 ·omega
theorem qqk {x:Rp} (h1:shT x.1) (h2:shT x.2):(rpT x).length≤2^23:=by
 have:=qb2 h1
 have:=qb2 h2
 unfold rpT
 simp only[List.length_append,arT,List.length_cons,List.length_nil];omega
theorem qwh {x:Rt} (h:shT x):(rtT x).length≤2^23:=by
 obtain⟨h1,h2⟩:=h
 unfold rtT
 split
 ·omega
 ·simp only[List.length_append,List.length_cons,List.length_nil];omega
theorem qql (f:Mf) (hf:MfB f) (hs:MfS f) (σ:List (List AV)):ev 14 [mfF f] σ=some (.tup [.str (fmtP f).1,.int .i64 (fmtP f).2],σ):=by
 have hCk:=qpk f hf
 have hCa:=qlq f hf
 have hcs:=hs.canon
 have hP:fmtP f=if mfE f≠0 then ([],mfE f) else if 65536<(fmtM (canonM f)).length then ([],13) else (fmtM (canonM f),0):=rfl
 have hgd:=fun h:mfE f=0=>(qs9 h).most
 have hlq:(canonM f).rq.length=f.rq.length:=q9 _
 have hle:(canonM f).ex.length=f.ex.length:=q9 _
 have hlp:(canonM f).rp.length=f.rp.length:=q9 _
 have hlt:(canonM f).rt.length=f.rt.length:=q9 _
 obtain⟨E,hE⟩:∃E,mfE f=E:=⟨_,rfl⟩
 rw[hE] at hCk hP hgd
 generalize fmtP f=R at *
 generalize canonM f=c at *
 obtain⟨m0,g0,rq0,ex0,rp0,rt0⟩:=f
 obtain⟨m,g,rq,ex,rp,rt⟩:=c
 simp only at hlq hle hlp hlt hgd
 rw[mfFx] at hCk hCa ⊢
 rw[mfFx] at hCa
 refine qd rfl Tryz.func14 rfl (by simp[Tryz.ntmps14]) (by kernel_rfl) (by kernel_rfl) ?_
 by_cases hE0:E=0
 ·subst hE0
  obtain⟨n1,n2,n3,n4⟩:=hgd rfl
  rw[if_neg (by simp)] at hP
  have hm:=hcs.m
  have hg:=hcs.g
  have hrq:=hcs.rq
  have hex:=hcs.ex
  have hrp:=hcs.rp
  have hrt:=hcs.rt
  simp only at hm hg hrq hex hrp hrt
  obtain⟨t0,ht0⟩:∃t,moT++m=t:=⟨_,rfl⟩
  obtain⟨t1,ht1⟩:∃t,t0++[10]=t:=⟨_,rfl⟩
  have l0:t0.length=m.length+7:=by rw[← ht0];simp[moT]<;>omega
  have l1:t1.length=m.length+8:=by rw[← ht1];simp[l0]
  have c0:7+m.length≤most:=by unfold most;omega
  have c0':m.length+7≤most:=by unfold most;omega
  have c1:t0.length+1≤most:=by unfold most;omega
  have hW1:=qdm σ [] none t1 (by simp;unfold most;omega)
  simp only[txt_none,List.nil_append] at hW1
  obtain⟨u0,hu0⟩:∃t,gT++g=t:=⟨_,rfl⟩
  obtain⟨u1,hu1⟩:∃t,u0++[10]=t:=⟨_,rfl⟩
  have k0:u0.length=g.length+4:=by rw[← hu0];simp[gT]<;>omega
  have k1:u1.length=g.length+5:=by rw[← hu1];simp[k0]
  have d0:4+g.length≤most:=by unfold most;omega
  have d0':g.length+4≤most:=by unfold most;omega
  have d1:u0.length+1≤most:=by unfold most;omega
  have hW2:=qdm σ [] (some t1) u1 (by simp;unfold most;omega)
  simp only[txt_some] at hW2
  obtain⟨t2,ht2⟩:∃t,t1++goL g=t:=⟨_,rfl⟩
  have l2:t2.length≤2^22:=by
   rw[← ht2,List.length_append]
   unfold goL
   split
   ·simp;omega
   ·simp only[List.length_append,gT,List.length_cons,List.length_nil];omega
  have b1:=blk_len (w:=rqWd) (ls:=rq.map rqT) (by decide) (by simp;omega) fun s hs=>by obtain⟨x,hx,rfl⟩:=List.mem_map.1 hs;exact qqj (hrq x hx)
  have b2:=blk_len (w:=exWd) (ls:=ex.map modT) (by decide) (by simp;omega) fun s hs=>by obtain⟨x,hx,rfl⟩:=List.mem_map.1 hs;have:=qb2 (hex x hx);omega
  have b3:=blk_len (w:=rpWd) (ls:=rp.map rpT) (by decide) (by simp;omega) fun s hs=>by obtain⟨x,hx,rfl⟩:=List.mem_map.1 hs;exact qqk (hrp x hx).1 (hrp x hx).2
  have hB1:=qqf σ.length (some t2) (σ++[bc σ.length (some t2)]) (by simp) rqWd (by decide) rq (by omega) (by simp;omega) 39 (by decide) rqT fun x hx=>⟨qqj (hrq x hx),fun σ=>fmt1_eq x (hrq x hx) σ⟩
  obtain⟨o3,ho3,q3⟩:=blk_step (some t2) rqWd rq rqT
  rw[ho3,qc1] at hB1
  simp only[txt_some] at q3
  have z3:(txt o3).length≤2^34:=by rw[q3,List.length_append];omega
  have hB2:=qqg σ.length o3 (σ++[bc σ.length o3]) (by simp) exWd (by decide) ex (by omega) (by omega) 40 (by decide) modT fun x hx=>⟨by have:=qb2 (hex x hx);omega,fun σ=>text_eq x (hex x hx) σ⟩
  obtain⟨o4,ho4,q4⟩:=blk_step o3 exWd ex modT
  rw[ho4,qc1] at hB2
  have z4:(txt o4).length≤2^35:=by rw[q4,List.length_append];omega
  have hB3:=qqh σ.length o4 (σ++[bc σ.length o4]) (by simp) rpWd (by decide) rp (by omega) (by omega) 44 (by decide) rpT fun x hx=>⟨qqk (hrp x hx).1 (hrp x hx).2,fun σ=>fmt2_eq x (hrp x hx).1 (hrp x hx).2 σ⟩
  obtain⟨o5,ho5,q5⟩:=blk_step o4 rpWd rp rpT
  rw[ho5,qc1] at hB3
  have z5:(txt o5).length≤2^36:=by rw[q5,List.length_append];omega
  have hB4:=qqi σ.length o5 (σ++[bc σ.length o5]) (by simp) rtWd (by decide) rt (by omega) (by omega) 46 (by decide) rtT fun x hx=>⟨qwh (hrt x hx),fun σ=>fmt3_eq x (hrt x hx) σ⟩
  obtain⟨o6,ho6,q6⟩:=blk_step o5 rtWd rt rtT
  rw[ho6,qc1] at hB4
  have hfin:fmtM ⟨m,g,rq,ex,rp,rt⟩=txt o6:=by rw[q6,q5,q4,q3,← ht2,← ht1,← ht0];rfl
  rw[hfin] at hP
  have hL:=LenB σ.length (σ++[bc σ.length o6]) o6 (by simp)
  have hS:=qsn σ.length (σ++[bc σ.length o6]) o6 (by simp)
  rw[qc1] at hS
  clear ho3 ho4 ho5 ho6
  have hgo:∀r,(r=if g=[] then t1 else t1++u1)→r=t2:=fun r hr=>by
   rw[hr,← ht2];unfold goL
   split
   ·simp
   ·rw[hu0,hu1]
  have hm0:109::111::100::117::108::101::32::m=t0:=ht0
  have hu0':10::103::111::32::g=u0:=hu0
  unfold moT at ht0
  unfold gT at hu0
  unfold rqWd at hB1
  unfold exWd at hB2
  unfold rpWd at hB3
  unfold rtWd at hB4
  have hb0:bc σ.length none=[.nilp,.sl .nil []]:=rfl
  rw[hb0] at hW1
  simp only[SB] at hW1 hW2 hB1 hB2 hB3 hB4 hL hS
  obtain⟨B1,hB1'⟩:∃B,bc σ.length (some t1)=B:=⟨_,rfl⟩
  rw[hB1'] at hW1 hW2
  obtain⟨B2,hB2'⟩:∃B,bc σ.length (some t2)=B:=⟨_,rfl⟩
  rw[hB2'] at hB1
  obtain⟨B3,hB3'⟩:∃B,bc σ.length o3=B:=⟨_,rfl⟩
  rw[hB3'] at hB1 hB2
  obtain⟨B4,hB4'⟩:∃B,bc σ.length o4=B:=⟨_,rfl⟩
  rw[hB4'] at hB2 hB3
  obtain⟨B5,hB5'⟩:∃B,bc σ.length o5=B:=⟨_,rfl⟩
  rw[hB5'] at hB3 hB4
  obtain⟨B6,hB6'⟩:∃B,bc σ.length o6=B:=⟨_,rfl⟩
  rw[hB6'] at hB4 hL hS
  obtain⟨S6,hS6⟩:∃B,bs σ.length o6=B:=⟨_,rfl⟩
  rw[hS6] at hS
  obtain⟨txt6,htx⟩:∃t,txt o6=t:=⟨_,rfl⟩
  rw[htx] at hL hS hP
  by_cases hg0:g=[]
  ·have hg1:(g==[])=true:=by simpa using hg0
   have e2:=hgo t1 (by rw[if_pos hg0])
   subst e2
   rw[hB1'] at hB2'
   subst hB2'
   by_cases hq:65536<txt6.length
   ·rw[if_pos hq] at hP
    simp (maxSteps:=4000000) [-List.append_assoc,hCk,hCa,hg1,c0,c0',c1,ht0,hm0,ht1,hW1,hB1,hB2,hB3,hB4,hL,hq,hP,Tryz.results14]
   ·rw[if_neg hq] at hP
    simp (maxSteps:=4000000) [-List.append_assoc,hCk,hCa,hg1,c0,c0',c1,ht0,hm0,ht1,hW1,hB1,hB2,hB3,hB4,hL,hS,hq,hP,Tryz.results14]
  ·have hg1:(g==[])=false:=by simpa using hg0
   have e2:=hgo (t1++u1) (by rw[if_neg hg0])
   rw[e2,hB2'] at hW2
   by_cases hq:65536<txt6.length
   ·rw[if_pos hq] at hP
    simp (maxSteps:=4000000) [-List.append_assoc,hCk,hCa,hg1,c0,c0',c1,d0,d0',d1,ht0,hm0,ht1,hu0,hu0',hu1,hW1,hW2,hB1,hB2,hB3,hB4,hL,hq,hP,Tryz.results14]
   ·rw[if_neg hq] at hP
    simp (maxSteps:=4000000) [-List.append_assoc,hCk,hCa,hg1,c0,c0',c1,d0,d0',d1,ht0,hm0,ht1,hu0,hu0',hu1,hW1,hW2,hB1,hB2,hB3,hB4,hL,hS,hq,hP,Tryz.results14]
 ·rw[if_pos hE0] at hP
  simp (maxSteps:=4000000) [hCk,hE0,hP,Tryz.results14]
end Go.Proofs.Tryz.Ai
end
section
namespace Go.Proofs.Tryz.Ai
open Go Go.AI Go.RowKit Go.Proofs
set_option maxHeartbeats 8000000
set_option maxRecDepth 4000
set_option linter.unusedVariables false
def parseTb:List AV→List (List AV)→Option (AV×List (List AV))
 | [.str t],s=>some (parseAV t,s)
 | _,_=>none
noncomputable def T1:Table:=fun f=>if f=16 then some parseTb else T f
theorem mixedT:Tryz.prog.follows .mixedOrders=true:=by kernel_rfl
theorem T1_ok {W0:World} (hl:LaidAll W0):TableOk Tryz.prog W0.heap.size W0 T1:=by
 intro f p hf xs s r s' e
 unfold T1 at hf
 split at hf
 ·rename_i h
  subst h
  injection hf with hf
  subst hf
  unfold parseTb at e
  split at e
  ·injection e with e
   injection e with e1 e2
   subst e1 e2
   exact⟨⟨_,Tryz.func16,by kernel_rfl,by kernel_rfl⟩,qkx mixedT (T_ok hl) _ _⟩
  ·cases e
 ·exact T_ok hl f p hf xs s r s' e
noncomputable abbrev ev1:Oracle:=EV Tryz.prog H T1
theorem TParse:T 16=some fun _ _=>none:=rfl
theorem lift {f:FuncId} {xs:List AV} {s:List (List AV)} {r:AV×List (List AV)} (h:ev f xs s=some r):ev1 f xs s=some r:=by
 refine qvl (fun f h=>?_) (fun f p h=>?_) h
 ·unfold T1
  split
  ·rename_i e;subst e;rw[TParse] at h;cases h
  ·exact h
 ·unfold T1
  split
  ·rename_i e;subst e;rw[TParse] at h;injection h with h;subst h;exact⟨_,rfl,fun _ _ _ e=>by cases e⟩
  ·exact⟨p,h,fun _ _ _ e=>e⟩
theorem qe2 (t:List UInt8) (s:List (List AV)):ev1 16 [.str t] s=some (parseAV t,s):=(qao (P:=Tryz.prog) (H:=H) (T:=T1) (f:=16) (p:=parseTb) (by rfl) [.str t] s).trans rfl
def exT:List UInt8:=[109,111,100,117,108,101,32,97,46,98,47,99,32,47,47,32,109,105,110,101,10,114,101,113,117,105,114,101,32,120,46,121,47,122,32,118,49,46,50,46,48,32,47,47,32,105,110,100,105,114,101,99,116,10]
def exM:Mf:=⟨[97,46,98,47,99],[],[([120,46,121,47,122],[118,49,46,50,46,48],true)],[],[],[]⟩
def exO:List UInt8:=[109,111,100,117,108,101,32,97,46,98,47,99,10,10,114,101,113,117,105,114,101,32,40,10,9,120,46,121,47,122,32,118,49,46,50,46,48,32,47,47,32,105,110,100,105,114,101,99,116,10,41,10]
def exU:List UInt8:=[109,111,100,117,108,101,32,97,46,98,47,99,10,109,111,100,117,108,101,32,97,46,98,47,99,10]
theorem qta:parseP exT=.ok exM:=by kernel_rfl
theorem qyu:fmtP exM=(exO,0):=by kernel_rfl
theorem qtb:parseP exU=.error (2,12):=by kernel_rfl
theorem first_eq (σ:List (List AV)):ev1 12 [] σ=some (.bool true,σ):=by
 have h1:∀σ,ev1 16 [.str exT] σ=some (.tup [mfF exM,.int .i64 0,.int .i64 0],σ):=fun σ=>by rw[qe2];unfold parseAV;rw[qta]
 have h2:∀σ,ev1 14 [mfF exM] σ=some (.tup [.str exO,.int .i64 0],σ):=fun σ=>by
  have:=lift (qql exM ⟨by decide,by decide,by decide,by decide,by decide,by decide,by simp[exM],by simp[exM],by simp[exM],by simp[exM]⟩ ⟨by decide,by decide,by simp[exM,shT],by simp[exM],by simp[exM],by simp[exM]⟩ σ)
  rw[qyu] at this
  exact this
 have h3:∀σ,ev1 16 [.str exU] σ=some (.tup [mfF mf0,.int .i64 2,.int .i64 12],σ):=fun σ=>by rw[qe2];unfold parseAV;rw[qtb]
 have hN:=fun e σ=>lift (qt5 e σ)
 rw[mfFx] at h1 h2 h3
 simp only[exM,exT,exO,exU,mf0,List.map_cons,List.map_nil,rqF] at h1 h2 h3
 refine qd rfl Tryz.func12 rfl (by simp[Tryz.ntmps12]) (by kernel_rfl) (by kernel_rfl) ?_
 simp (maxSteps:=4000000) [h1,h2,h3,hN,Tryz.results12]
end Go.Proofs.Tryz.Ai
end
section
namespace Go.Proofs.Tryz.Ai
open Go Go.AI Go.Proofs
set_option maxHeartbeats 4000000
set_option maxRecDepth 4000
set_option linter.unusedVariables false
theorem qwi {s:List UInt8} (x r:List UInt8) (hs:s=x++10::r) (hx:(10:UInt8)∉x):Lib.cut s [10]=(x,r,true):=by
 rw[qh2,hs]
 unfold cutB
 rw[qyb hx]
 simp
theorem qwj {s:List UInt8} (hs:(10:UInt8)∉s):Lib.cut s [10]=(s,[],false):=by
 rw[qh2]
 unfold cutB
 rw[qj8.2 hs]
theorem qqm {x r:List UInt8} (hx:(10:UInt8)∉x):lnT (x++10::r)=x::lnT r:=by
 rw[qdh (by simp),qwi x r rfl hx]
theorem qwk {x:List UInt8} (hx:(10:UInt8)∉x) (h0:x≠[]):lnT x=[x]:=by
 rw[qdh h0,qwj hx];rfl
theorem qf2:∀(n:Nat) (s:List UInt8),s.length≤n→∃tl,splitB 10 s=lnT s++tl∧(tl=[]∨tl=[[]])
 | n,s,hn=>by
  by_cases h0:s=[]
  ·subst h0;exact⟨[[]],rfl,.inr rfl⟩
  by_cases h1:(10:UInt8)∈s
  ·obtain⟨x,r,hs,hx⟩:=List.eq_append_cons_of_mem h1
   cases n with
   | zero=>exact absurd (List.eq_nil_of_length_eq_zero (by omega)) h0
   | succ n =>
    obtain⟨tl,h2,h3⟩:=qf2 n r (by rw[hs] at hn;simp at hn;omega)
    exact⟨tl,by rw[hs,qd8 hx,qqm hx,h2];rfl,h3⟩
  ·exact⟨[],by rw[qc7 h1,qwk h1 h0];rfl,.inl rfl⟩
theorem qls:∀(L:List (List UInt8)),(∀x∈L,(10:UInt8)∉x)→lnT (L.flatMap fun x=>x++[10])=L
 | [],_=>rfl
 | x::r,h=>by
  have e:(x::r).flatMap (fun x=>x++[10])=x++10::r.flatMap (fun x=>x++[10]):=by simp
  rw[e,qqm (h x (List.mem_cons_self ..)),qls r fun y hy=>h y (List.mem_cons_of_mem _ hy)]
theorem qwl {s x:List UInt8} (h:x∈lnT s):x.length≤s.length:=by
 obtain⟨tl,h1,_⟩:=qf2 s.length s (Nat.le_refl _)
 exact qbd (c:=10) (by rw[h1];exact List.mem_append_left _ h)
theorem qjn:∀{l:List (List UInt8)} {p q:Ps},MfB p.f→BkOk p→(∀s∈l,s.length≤2^28)→readLs p l=.ok q→q.line=p.line+l.length
 | [],p,q,_,_,_,h=>by simp only[readLs] at h;injection h with h;subst h;simp
 | s::r,p,q,hf,hk,hl,h=>by
  simp only[readLs] at h
  cases hq:readP p s with
  | error e=>rw[hq] at h;cases h
  | ok p' =>
   rw[hq] at h
   obtain⟨k1,k2,k3⟩:=qdt hq hf (hl s (List.mem_cons_self ..)) hk
   have:=qjn k1 k3 (fun x hx=>hl x (List.mem_cons_of_mem _ hx)) h
   rw[this,k2,List.length_cons];push_cast;omega
theorem qha:∀{l:List (List UInt8)} {p:Ps} {k e:Int},MfB p.f→BkOk p→(∀s∈l,s.length≤2^28)→readLs p l=.error (k,e)→∃i,i<l.length∧k=p.line+i+1∧∃q,readLs p (l.take i)=.ok q∧q.line=p.line+i
 | [],p,k,e,_,_,_,h=>by simp only[readLs] at h;cases h
 | s::r,p,k,e,hf,hk,hl,h=>by
  simp only[readLs] at h
  cases hq:readP p s with
  | error e' =>
   rw[hq] at h
   injection h with h
   injection h with h1 h2
   exact⟨0,by simp,by rw[← h1];simp,p,rfl,by simp⟩
  | ok p' =>
   rw[hq] at h
   obtain⟨k1,k2,k3⟩:=qdt hq hf (hl s (List.mem_cons_self ..)) hk
   obtain⟨i,h1,h2,q,h3,h4⟩:=qha k1 k3 (fun x hx=>hl x (List.mem_cons_of_mem _ hx)) h
   refine⟨i+1,by simp;omega,by rw[h2,k2];push_cast;omega,q,?_,by rw[h4,k2];push_cast;omega⟩
   rw[List.take_succ_cons,readLs,hq];exact h3
theorem qyv:MfB ps0.f:=⟨by simp[ps0],by simp[ps0],by simp[ps0],by simp[ps0],by simp[ps0],by simp[ps0],by simp[ps0],by simp[ps0],by simp[ps0],by simp[ps0]⟩
theorem qyw:BkOk ps0:=fun h=>absurd rfl h
theorem first_plain {text:List UInt8} (ht:text.length≤65536) {N:Nat} {e:Int} (h:parseP text=.error ((N:Int)+1,e)) (hn:N+1≤(splitB 10 text).length) :
  match parseP (((splitB 10 text).take N).flatMap fun x=>x++[10]) with
  | .ok _=>True
  | .error x=>x.1=0∨(x.1=(N:Int)+1∧x.2=11):=by
 obtain⟨tl,hs,htl⟩:=qf2 text.length text (Nat.le_refl _)
 have hN:N≤(lnT text).length:=by
  rw[hs,List.length_append] at hn
  rcases htl with rfl|rfl<;>simp at hn<;>omega
 have htk:(splitB 10 text).take N=(lnT text).take N:=by rw[hs,List.take_append_of_le_length hN]
 have hmem:∀x∈(lnT text).take N,(10:UInt8)∉x:=fun x hx=>qmf (c:=10) (l:=text) (by rw[hs];exact List.mem_append_left _ (List.mem_of_mem_take hx))
 have hl:∀s∈lnT text,s.length≤2^28:=fun s hs=>by have:=qwl hs;omega
 rw[htk]
 generalize hF:((lnT text).take N).flatMap (fun x=>x++[10])=F
 have hlF:lnT F=(lnT text).take N:=by rw[← hF];exact qls _ hmem
 have hp:∃q,readLs ps0 ((lnT text).take N)=.ok q∧q.line=N:=by
  unfold parseP at h
  rw[if_neg (by omega)] at h
  cases hr:readLs ps0 (lnT text) with
  | error x =>
   rw[hr] at h
   injection h with h
   obtain⟨i,h1,h2,q,h3,h4⟩:=qha (k:=x.1) (e:=x.2) qyv qyw hl hr
   have h5:x.1=(N:Int)+1:=by rw[h]
   have h6:i=N:=by
    have:ps0.line=0:=rfl
    rw[this] at h2;omega
   subst h6
   exact⟨q,h3,by rw[h4];simp[ps0]⟩
  | ok pE =>
   rw[hr] at h
   simp only at h
   have hln:=qjn qyv qyw hl hr
   cases hq:endP pE with
   | ok _=>rw[hq] at h;cases h
   | error x =>
    rw[hq] at h
    injection h with h
    subst h
    unfold endP at hq
    split at hq
    ·injection hq with hq
     injection hq with h1 h2
     have h3:ps0.line=0:=rfl
     rw[h3] at hln
     have h4:(lnT text).length=N:=by omega
     rw[List.take_of_length_le (by omega)]
     exact⟨pE,hr,by rw[hln];omega⟩
    ·split at hq
     ·injection hq with hq;injection hq with h1 h2;omega
     ·split at hq
      ·injection hq with hq;injection hq with h1 h2;omega
      ·cases hq
 obtain⟨q,hq,hql⟩:=hp
 unfold parseP
 split
 ·rename_i heq;split at heq
  ·cases heq
  ·rw[hlF,hq] at heq;trivial
 ·rename_i x heq
  split at heq
  ·injection heq with heq;subst heq;exact .inl rfl
  ·rw[hlF,hq] at heq
   simp only at heq
   cases he:endP q with
   | ok _=>rw[he] at heq;cases heq
   | error y =>
    rw[he] at heq
    injection heq with heq
    subst heq
    unfold endP at he
    split at he
    ·injection he with he
     rw[← he,hql]
     exact .inr ⟨rfl,rfl⟩
    ·split at he
     ·injection he with he;rw[← he];exact .inl rfl
     ·split at he
      ·injection he with he;rw[← he];exact .inl rfl
      ·cases he
end Go.Proofs.Tryz.Ai
end
