/- Part 2 of a proof: a Go function is evaluated on abstract values (texts AiMs3 .. AiSimp); no conditions beyond those of each theorem. -/
import Derived.Test.YthbdimeliiocpaaGreatDoorAi1
import Derived.MapKept
set_option linter.all false
set_option linter.unusedVariables false
set_option linter.unusedSimpArgs false
set_option linter.unnecessarySimpa false
section
namespace Go.AI
open Go.RowKit
set_option linter.unusedVariables false
section
variable {P:Program} {B:Nat} {T0:Nat→Prop} {μ0:Gh} {w0:World} {N:Nat} {μ:Gh} {lx:Nat→Option Nat} {a:Act} {w:World} {st:St}
theorem qdw {d T pos af g x y t t'} {el sz by_:Nat} {z u:AV} {ys:List AV} {st':St} (h:Sim B T0 μ0 w0 N μ lx a w st) (hel:elemA P t=some el) (hs:sizeA P el=some sz) (hb:bytesA P el=some by_) (hz:zeroA P el=some z)
  (hok:¬(sz=0∨128<by_∨z.cells.length≠sz)) (ht:takeOp st x=some (u,st')) (hsrc:Sim B T0 μ0 w0 N μ lx a w st'→∃news,Src P B μ w sz t' (a.eval y) ys news) (hu:u=.sl .nil []∨u=.sl (.ex el sz) []) (hne:ys≠[]) (hall:allCells sz ys) (hlen:ys.length≤most) :
  Goal P B T0 μ0 w0 N lx a w ⟨d,.call {callee:=.builtin .append,args:=#[x,y],argTypes:=#[t,t']},T,pos,af,g⟩ {st' with s:=st'.s++[flat ys]} (.ms el sz st'.s.length 0 ys.length):=by
 intro K Q k
 obtain⟨h1,r1,_⟩:=take_sound h ht
 obtain⟨i,zv,hi,hisz,rfl,hzv,hof⟩:=qe9 hs hb hz
 have hsz0:0<sz:=by omega
 have hby:i.bytes≤128:=by omega
 have hzl:z.cells.length=sz:=by omega
 have hzs:zv.cells.size=sz:=(zero_sz hof).1.trans hzl
 have hmost:most≤maxLen:=by unfold most maxLen;omega
 obtain⟨news,hS⟩:=hsrc h1
 have hnsz:=hS.size
 have hpos:0<ys.length:=List.length_pos_iff.2 hne
 have grow:∀(base:Option Addr) (cap:Nat),(∀w':World,w'.heap=w.heap→(Builtin.firstCells sz 0 (.slice base 0 cap)).run P w'=.ok #[] w')→cap<ys.length→a.eval x=.slice base 0 cap →
   Oper.wp P ⟨d,.call {callee:=.builtin .append,args:=#[x,y],argTypes:=#[t,t']},T,pos,af,g⟩ a w K Q:=by
  intro base cap hold hcap hx
  have hrun:=qcs (P:=P) (ty:=T) (elem_eq hel) hi hzv hisz hS base 0 cap [] hold (by omega) (by omega) hby
  simp only[Nat.zero_add] at hrun
  obtain⟨h2,_⟩:=h1.drew
  have hge:ys.length≤grownCap w ys.length cap el:=grownCap_ge _ _ _ _
  have hsize:(([]:List Value).toArray++news.toArray++Builtin.zeroCells zv.cells (grownCap w ys.length cap el-ys.length)).size=grownCap w ys.length cap el*sz:=by
   simp only[Array.size_append,List.size_toArray,size_zeroCells',hzs,hnsz,List.length_nil,Nat.zero_add,← Nat.add_mul]
   congr 1;omega
  have hxd:Ext B (fun _=>False) μ w μ w.drew:=qes (w:=w) (w':=w.drew) rfl rfl rfl rfl _
  obtain⟨h3,r3⟩:=h2.freshM (vs:=([]:List Value).toArray++news.toArray++Builtin.zeroCells zv.cells (grownCap w ys.length cap el-ys.length)) (ty:=el) (els:=ys) (sz:=sz)
   (cap:=grownCap w ys.length cap el) hsz0 hge (grownCap_le_maxLen _ _ _ _ (Nat.le_trans hlen hmost)) hsize hall
   (fun i j c hc=>by
    have h4:=(hS.rep i j c hc).mono hxd
    have h5:=qct hall hc
    rw[qh,Array.toList_append,Array.toList_append,List.getElem?_append_left (by simp;omega)]
    rw[qh] at h4
    simpa using h4)
  exact qbr (by rw[hx];exact hrun) (k _ _ _ h3 r3)
 have none_:a.eval x=.slice none 0 0→Oper.wp P ⟨d,.call {callee:=.builtin .append,args:=#[x,y],argTypes:=#[t,t']},T,pos,af,g⟩ a w K Q :=
  fun hx=>grow none 0 (fun w' _=>run_firstCells_none w' sz 0 0 0) hpos hx
 rcases hu with rfl|rfl
 ·exact none_ (Rep.nil_val r1.full.1).1
 ·rcases r1.full.2 with hv|⟨gb,cap,cur,hv,hBg,hg,hnc,hcm,hcs,hfr,hallx,_⟩
  ·exact none_ hv
  ·have htok:=r1.tok none gb (by rw[hv];rfl)
   simp only[List.length_nil,Nat.zero_mul] at hv hfr
   by_cases hroom:ys.length≤cap
   ·have hfit:0*sz+news.length≤cur.size:=by rw[hnsz,hcs,Nat.zero_mul,Nat.zero_add];exact Nat.mul_le_mul_right _ hroom
    have hrun:=qcr (P:=P) (ty:=T) (elem_eq hel) hi hisz hS gb 0 cap cur el hg (by omega) hfit
    simp only[Nat.zero_mul,Nat.zero_add] at hrun hfit
    generalize hcur':(cur.toList.take 0++news++cur.toList.drop news.length).toArray=cur' at hrun
    have hseg:∀j:Nat,j<news.length→cur'.toList[j]? = news[j]?:=by
     intro j hj;rw[← hcur'];simp only[List.take_zero,List.nil_append];rw[List.getElem?_append_left hj]
    have hlen':cur'.size=cur.size:=by
     have:cur'.toList.length=cur.toList.length:=by rw[← hcur'];simp;omega
     simpa using this
    have x:=qcb (μ:=μ) (w:=w) hBg hfr cur' hg hlen'
    obtain⟨h2,hown2⟩:=h1.grow x (fun l kk e hkb=>htok.2.2.2 l (by rw[e,hkb])) (fun b' hb' e=>by subst e;rcases htok.2.2.1 with t|t;exact t;omega) h1.gdom (fun b' hb'=>h1.fr0 b' (by simpa using hb')) (fun _ _=>rfl)
    obtain⟨h3,r3⟩:=h2.adoptApp (cap:=cap) (cs:=[]) (els:=ys) hsz0 (hg.setRow hlen') (fun l e=>htok.2.2.2 l (by rw[← hown2];exact e)) hBg htok.2.2.1 hfr 0 (by simp) (by rw[hlen',hcs]) (by omega) hcm hall
     (fun j c hc=>by simp at hc) (fun j k c hc=>by simp at hc) (fun j j' k c c' hc=>by simp at hc)
     (fun i j c hc=>by
      have h5:=qct hall hc
      have h4:=(hS.rep i j c hc).mono x
      rw[Nat.zero_mul,Nat.zero_add,qh,hseg _ (by omega)]
      rw[qh] at h4
      exact h4)
    simp only[List.nil_append,Nat.zero_add] at h3 r3
    exact qbr (by rw[hv];exact hrun) (k _ _ _ h3 r3)
   ·exact grow (some ⟨gb,0,none⟩) cap (fun w' hw'=>run_firstCells_some w' sz 0 ⟨gb,0,none⟩ 0 cap [] (by simp) (fun j v hj=>by simp at hj)) (by omega) hv
theorem quc {d T pos af g x y t t'} {K:Act→World→Prop} {Q:Exit→Act→World→Prop} {v:Value} {w':World} (hr:(Builtin.copy_ #[t,t'] T #[a.eval x,a.eval y]).run P w=.ok v w') (h:K (a.put d v) w') :
  Oper.wp P ⟨d,.call {callee:=.builtin .copy,args:=#[x,y],argTypes:=#[t,t']},T,pos,af,g⟩ a w K Q:=by
 unfold Oper.wp execOp
 simp only[resolve,invoke,builtin,Sem.run_bind,Sem.run_pure,Result.andThen_ok,List.map_toArray,List.map_cons,List.map_nil,hr]
 exact h
theorem ql2 {d T pos af g x y t t'} {ty sz n off b:Nat} {ys cs:List AV} (h:Sim B T0 μ0 w0 N μ lx a w st) (hel:elemA P t=some ty) (hs:sizeA P ty=some sz) (hsz:0<sz) (hx:aeval st x=some (.ms ty sz b off n)) (hsrc:∃news,Src P B μ w sz t' (a.eval y) ys news)
  (hcs:st.s[b]? = some cs) (hall:allCells sz ys) (hn:0<n) (hyn:ys.length≤n) (hfit:off+n*sz≤cs.length) :
  Goal P B T0 μ0 w0 N lx a w ⟨d,.call {callee:=.builtin .copy,args:=#[x,y],argTypes:=#[t,t']},T,pos,af,g⟩ {st with s:=st.s.set b (writeCells cs off (flat ys))} (.int .i64 ys.length):=by
 intro K Q k
 obtain⟨news,hS⟩:=hsrc
 have hnsz:=hS.size
 have hfl:=flat_get (fun e he=>(hall e he).1) hsz
 have hne:cs≠[]:=fun e=>by subst e;have:0<n*sz:=Nat.mul_pos hn hsz;simp at hfit;omega
 obtain⟨blk,cap,cur,ho⟩:=h.open (els:=ys) (qj h hx).1 hcs hne
 have hlc:=ho.len
 have hmul:ys.length*sz≤n*sz:=Nat.mul_le_mul_right _ hyn
 have hfit':off+news.length≤cur.size:=by omega
 have hst:=qcm P off news 0 ho.heap (by simpa using hfit') hS.one
 simp only[Nat.add_zero] at hst
 generalize hvs':(cur.toList.take off++news++cur.toList.drop (off+news.length)).toArray=vs' at hst
 have hseg:∀j:Nat,vs'.toList[j]? = if j<off then cur.toList[j]? else if j<off+news.length then news[j-off]? else cur.toList[j]?:=by
  intro j;rw[← hvs'];exact getElem?_seg cur.toList _ off (by simpa using hfit') j
 have hsegc:∀j:Nat,(writeCells cs off (flat ys))[j]? = if j<off then cs[j]? else if j<off+(flat ys).length then (flat ys)[j-off]? else cs[j]?:=by
  intro j;exact getElem?_seg cs (flat ys) off (by omega) j
 have hvsz:vs'.size=cur.size:=by
  have e1:vs'.toList.length=cur.toList.length:=by rw[← hvs'];simp;omega
  simpa using e1
 have cases_:∀(j:Nat) (c:AV),(writeCells cs off (flat ys))[j]? = some c→(cs[j]? = some c∧vs'.getD j undef=cur.getD j undef)∨(off≤j∧(flat ys)[j-off]? = some c∧vs'.getD j undef=news.toArray.getD (j-off) undef):=by
  intro j c hc
  rw[hsegc,hfl.1] at hc
  have hs:=hseg j
  rw[hnsz] at hs
  by_cases h1:j<off
  ·rw[if_pos h1] at hc hs;exact .inl ⟨hc,by rw[qh,qh,hs]⟩
  ·rw[if_neg h1] at hc hs
   by_cases h2:j<off+ys.length*sz
   ·rw[if_pos h2] at hc hs;exact .inr ⟨by omega,hc,by rw[qh,qh,hs]⟩
   ·rw[if_neg h2] at hc hs;exact .inl ⟨hc,by rw[qh,qh,hs]⟩
 have newc:∀(j:Nat) (c:AV),(flat ys)[j]? = some c→plain c=true∧Rep B μ w (news.toArray.getD j undef) c:=by
  intro j c hc
  obtain⟨p1,p2,p3⟩:=flat_cell hsz hall hc
  have:=hS.rep _ _ c p3
  rw[Nat.mul_comm,Nat.div_add_mod] at this
  exact⟨p1,this⟩
 have oldown:∀(j k:Nat) (c:AV),cs[j]? = some c→exBlk (cur.getD j undef) c=some k→own a lx μ w st (.gc b j)=some k:=by
  intro j k c hc e
  have hj:j<cur.size:=Nat.lt_of_lt_of_le (List.getElem?_eq_some_iff.1 hc).1 hlc
  simp only[own,ownB,hcs,ho.bx,Option.bind_some,hc,qae ho.heap,qb6 hj]
  exact e
 have quietE:∀{c:AV} {v:Value},plain c=true→exBlk v c=none:=fun hp=>by simp[plain] at hp;exact qt hp.2
 have h2:=h.setGlob (d:=b) (blk:=blk) (cs:=cs) (cs':=writeCells cs off (flat ys)) (vs:=cur) (vs':=vs') (ty:=ty) hcs hne ho.bx ho.heap ho.fr hvsz (by
   have e2:(writeCells cs off (flat ys)).length=cs.length:=by simp[writeCells];omega
   rw[e2,hvsz];exact hlc)
  (fun j c hc=>by
   rcases cases_ j c hc with ⟨h3,h4⟩|⟨_,h3,h4⟩
   ·rw[h4];exact ho.cell j c h3
   ·rw[h4];have:=newc _ c h3;exact⟨plain_cell1 this.1,this.2,qaq (by have:=this.1;simp[plain] at this;exact this.2)⟩)
  (fun j k c hc e=>by
   rcases cases_ j c hc with ⟨h3,h4⟩|⟨_,h3,h4⟩
   ·rw[h4] at e
    have ho:=oldown j k c h3 e
    have:=h.rng _ k ho
    exact⟨this.1,this.2.1,this.2.2,fun l hl e2=>hl j (h.inj _ _ k e2 ho)⟩
   ·rw[quietE (newc _ c h3).1] at e;cases e)
  (fun j j' k c c' hc hc' e e'=>by
   rcases cases_ j c hc with ⟨h3,h4⟩|⟨h5,h3,h4⟩
   ·rcases cases_ j' c' hc' with ⟨h3',h4'⟩|⟨h5',h3',h4'⟩
    ·rw[h4] at e;rw[h4'] at e'
     have:=h.inj _ _ k (oldown j k c h3 e) (oldown j' k c' h3' e');injection this
    ·rw[quietE (newc _ c' h3').1] at e';cases e'
   ·rw[quietE (newc _ c h3).1] at e;cases e)
 refine quc (v:=.int .i64 ys.length) (w':=w.setRow blk vs') ?_ (k _ _ _ h2 (qz (.int _ _) (fun j=>by cases j<;>rfl) trivial))
 have hmin:Nat.min ys.length n=ys.length:=by simp[Nat.min_def,hyn]
 rw[ho.v]
 simp[Builtin.copy_,run_underlying (elem_eq hel),hS.len,qac hs,hmin,hS.cells w rfl,hst,goInt]
theorem qjt {s:ByteArray} {e:TypeId} (h:Sim B T0 μ0 w0 N μ lx a w st) (hm:s.size≤most) :
  Sim B T0 μ0 w0 N μ lx a (Lib.bytesWorld w e s) st∧Blk (Lib.bytesWorld w e s) w.heap.size (Lib.bytesCells w e s) e∧(∀l,own a lx μ (Lib.bytesWorld w e s) st l≠some w.heap.size) ∧
   (Lib.bytesCells w e s).size=grownCap w s.size 0 e∧s.size≤grownCap w s.size 0 e∧grownCap w s.size 0 e≤maxLen ∧
   (∀(i j:Nat) (c:AV),(((s.data.toList.map AV.u8)[i]?).bind fun e=>e.cells[j]?)=some c→j=0∧i<s.size∧∃b:UInt8,c=.u8 b∧(Lib.bytesCells w e s).getD i undef=.int .u8 b.toNat):=by
 have hmost:most≤maxLen:=by unfold most maxLen;omega
 have hge:s.size≤grownCap w s.size 0 e:=grownCap_ge _ _ _ _
 have hsz:(Lib.bytesCells w e s).size=grownCap w s.size 0 e:=by simp[Lib.bytesCells];omega
 have h1:=h.drew.1
 have h2:=h1.alloc (.cells (Lib.bytesCells w e s) e)
 have hx:=qbq (μ:=μ) h1.hB (.cells (Lib.bytesCells w e s) e)
 have hfree:∀l,own a lx μ (w.drew.alloc (.cells (Lib.bytesCells w e s) e)) st l≠some w.heap.size:=by
  intro l e2
  have:=(h1.grow hx (fun _ _ _=>id) (fun _ _ h=>h.elim) h1.gdom (fun b hb=>h1.fr0 b (by simp at hb ⊢;omega)) (fun _ _=>rfl)).2 l
  rw[this] at e2
  have:=(h1.rng l _ e2).2.1
  have:w.drew.heap.size=w.heap.size:=rfl
  omega
 have hT:T0 w.heap.size∨w0.heap.size≤w.heap.size:=.inr h.ext.below.size
 have h3:=h2.freeze (q:=(Lib.bytesCells w e s).size) (n:=1) hfree h.hB hT
 have hfree3:∀l,own a lx μ (Lib.bytesWorld w e s) st l≠some w.heap.size:=by
  intro l e2
  have x:Ext B (·=w.heap.size) μ (w.drew.alloc (.cells (Lib.bytesCells w e s) e)) μ (Lib.bytesWorld w e s) :=
   ⟨Lib.below_freeze (Below.refl _ _) (p:=⟨w.heap.size,(Lib.bytesCells w e s).size,none⟩) h.hB 1,fun b hb hn=>⟨freeze_heap_other hn,rfl⟩,fun b j hb hj=>freeze_cell,fun _ _=>Nat.le_refl _,fun _ _ h=>h,fun b s e=>by rw[show Lib.bytesWorld w _ _=_ from rfl,Lib.bytesWorld,freeze_shape];exact e,fun r es c e=>freeze_map e,fun h=>h⟩
  have:=(h2.grow x (fun l k hk e=>hfree l (by rw[hk,e])) (fun b hb e=>by subst e;rcases hT with t|t;exact t;omega) h2.gdom (fun b hb=>h2.fr0 b (by rw[Lib.bytesWorld,freeze_size] at hb;exact hb)) (fun _ _=>rfl)).2 l
  rw[this] at e2
  exact hfree l e2
 refine⟨h3,⟨_,Lib.bytesWorld_at_new w e s,.inr (Nat.le_refl _)⟩,hfree3,hsz,hge,grownCap_le_maxLen _ _ _ _ (Nat.le_trans hm hmost),fun i j c hc=>?_⟩
 rw[List.getElem?_map] at hc
 cases hx:s.data.toList[i]? with
 | none=>simp[hx] at hc
 | some b =>
  rw[hx] at hc
  simp only[Option.map_some,Option.bind_some,AV.u8,AV.cells] at hc
  have hi:i<s.size:=by have:=(List.getElem?_eq_some_iff.1 hx).1;simpa using this
  cases j with
  | succ j=>simp at hc
  | zero =>
   simp at hc;subst hc
   refine⟨rfl,hi,b,rfl,?_⟩
   rw[qh]
   simp only[Lib.bytesCells,Array.toList_append,Array.toList_map]
   rw[List.getElem?_append_left (by simpa using hi)]
   simp[List.getElem?_map,hx]
def numOf:Value→Int
 | .int _ m=>m
 | _=>0
theorem ql3 {d T pos af g src dst x} {v:AV} {st':St} {hh:Hint} {u:AV} (h:Sim B T0 μ0 w0 N μ lx a w st) (e:msConv P hh src dst x d st=some (v,st')) :
  Goal P B T0 μ0 w0 N lx a w ⟨d,.convert src dst x,T,pos,af,g⟩ st' v:=by
 unfold msConv at e
 obtain⟨u,hu,e⟩:=qa e
 have hf:=qj h hu
 split at e
 ·rename_i l
  obtain⟨el,hel,e⟩:=qa e
  obtain⟨⟨hs,he,hm⟩,e⟩:=qo e
  intro K Q k
  have hr:=hf.1
  generalize hx:a.eval x=vx at hr
  cases hr with
  | str s =>
   have hlen:s.data.toList.length=s.size:=by simp
   rw[hlen] at hm
   obtain⟨h1,hb,hfree,hsz,hge,hml,hrep⟩:=qjt (e:=el) h hm
   have hrun:=Lib.run_convert_string_bytes (P:=P) w src dst el s hs (elem_eq hel) he
   have hall:allCells 1 (s.data.toList.map AV.u8):=fun y hy=>by
    obtain⟨b,_,rfl⟩:=List.mem_map.1 hy
    exact⟨rfl,fun c hc=>by simp[AV.u8,AV.cells] at hc;subst hc;rfl⟩
   have hT:T0 w.heap.size∨w0.heap.size≤w.heap.size:=.inr h.ext.below.size
   have hfr:μ.fr w.heap.size=0:=h.fr0 _ (Nat.le_refl _)
   have hlm:(s.data.toList.map AV.u8).length=s.size:=by simp
   split at e
   ·simp only[Option.some.injEq,Prod.mk.injEq] at e
    obtain⟨rfl,rfl⟩:=e
    obtain⟨h3,r3⟩:=h1.adoptApp (sz:=1) (cap:=grownCap w s.size 0 el) (cs:=[]) (els:=s.data.toList.map AV.u8) (by omega) hb hfree h.hB hT hfr 0 (by simp) (by rw[hsz];simp) (by rw[hlm];omega) hml hall
     (fun j c hc=>by simp at hc) (fun j k c hc=>by simp at hc) (fun j j' k c c' hc=>by simp at hc)
     (fun i j c hc=>by
      obtain⟨rfl,hi,b,rfl,e2⟩:=hrep i j c hc
      simp only[Nat.zero_mul,Nat.zero_add,Nat.mul_one,Nat.add_zero]
      rw[e2];exact .int _ _)
    have hflat:([]:List AV)++flat (s.data.toList.map AV.u8)=s.data.toList.map AV.u8:=by
     simp only[List.nil_append,flat]
     induction s.data.toList with
     | nil=>rfl
     | cons b r ih=>simp only[List.map_cons,List.flatMap_cons,ih];rfl
    rw[hflat] at h3 r3
    rw[hlm] at r3
    simp only[Nat.zero_add] at r3
    exact qx (convert src dst (a.eval x)) rfl (by rw[hx];exact hrun) (k _ _ _ h3 (by rw[hlen];exact r3))
   ·simp only[Option.some.injEq,Prod.mk.injEq] at e
    obtain⟨rfl,rfl⟩:=e
    obtain⟨h2,hown2,_⟩:=h1.extend (q:=s.size*1) (cur':=Lib.bytesCells w el s) hfree h.hB hT hb rfl (fun j hj=>rfl) (by rw[hfr];exact Nat.zero_le _)
    obtain⟨fz,hb',hok⟩:=hb
    rw[setRow_self _ _ _ _ fz hb'] at h2 hown2
    refine qx (convert src dst (a.eval x)) rfl (by rw[hx];exact hrun) (k _ _ _ h2 ⟨⟨?_,.inr ⟨w.heap.size,grownCap w s.size 0 el,Lib.bytesCells w el s,by rw[hlm],h.hB,⟨fz,hb',hok⟩,by rw[hlm];exact hge,hml,by rw[hsz];simp,by simp[mark],hall,by omega⟩⟩,fun j kk hk=>?_,fun j j' kk e e'=>?_⟩)
    ·have:=Rep.sl (B:=B) (μ:=mark μ w.heap.size (s.size*1)) (w:=Lib.bytesWorld w el s) w.heap.size 0 (grownCap w s.size 0 el) 1 (.ex el 1) (s.data.toList.map AV.u8) (fun k=>(Lib.bytesCells w el s).getD k undef) (by simp) (by omega) (by rw[hlm];exact hge) hml hall (fun k hk=>by
      rw[hlm] at hk
      refine⟨?_,.inr (by simp[mark];omega)⟩
      rw[Nat.zero_add,(show Blk _ _ _ _ from ⟨fz,hb',hok⟩).cell]
      exact qb6 (by omega))
      (fun i j c hc=>by
       obtain⟨rfl,hi,b,rfl,e2⟩:=hrep i j c hc
       simp only[Nat.mul_one,Nat.add_zero]
       rw[e2];exact .int _ _)
     rw[hlm] at this
     exact this
    ·cases j with
     | none =>
      simp only[ownV,exBlk,Option.some.injEq] at hk;subst hk
      exact⟨h.hB,by rw[Lib.bytesWorld_size];omega,hT,fun l hl=>hfree l (by rw[← hown2];exact hl)⟩
     | some j=>simp[ownV] at hk
    ·cases j with
     | some j=>simp[ownV] at e
     | none=>cases j' with
      | some j=>simp[ownV] at e'
      | none=>rfl
 ·rename_i ty sz b off n
  obtain⟨el,hel,e⟩:=qa e
  obtain⟨⟨hty,he,hd⟩,e⟩:=qo e
  obtain⟨cs,hcs,e⟩:=qa e
  obtain⟨els,hels,e⟩:=qa e
  obtain⟨l,hl,e⟩:=qa e
  simp only[Option.some.injEq,Prod.mk.injEq] at e
  obtain⟨rfl,rfl⟩:=e
  subst hty
  intro K Q k
  obtain⟨b1,b2⟩:=qe8 hl
  have hr:=hf.1
  obtain⟨blk,cap,ns,hv,hns,hload⟩:∃(blk cap:Nat) (ns:List Int),a.eval x=.slice (some ⟨blk,off,none⟩) n cap∧ns.map (fun m:Int=>UInt8.ofNat m.toNat)=l ∧
    (loadCells ⟨blk,off,none⟩ n).run P w=.ok (ns.map (Value.int .u8)).toArray w:=by
   by_cases hn0:n=0
   ·subst hn0
    have hel0:els=[]:=by
     unfold readEls at hels
     obtain⟨g,hg,hels⟩:=qa hels
     obtain⟨m,hm,hels⟩:=qa hels
     split at hels
     ·injection hels with hels;subst hels;rfl
     ·cases hels
    subst hel0
    have hl0:l=[]:=List.eq_nil_of_length_eq_zero (by simpa using b1.symm)
    subst hl0
    generalize a.eval x=vx at hr
    cases hr with
    | ms _ _ _ _ _ blk cap hb hsh hc hm hsz=>exact⟨blk,cap,[],rfl,rfl,run_loadCells (P:=P) w _ 0 (fun _=>undef) (fun j hj=>by omega)⟩
   ·have hne:cs≠[]:=by
     intro e0;subst e0
     unfold readEls at hels
     obtain⟨g,hg,hels⟩:=qa hels
     obtain⟨m,hm,hels⟩:=qa hels
     split at hels
     ·rename_i hq
      obtain⟨_,h0,_,h2⟩:=hq
      have:0<n*sz:=Nat.mul_pos (by omega) h0
      simp at h2;omega
     ·cases hels
    obtain⟨blk,cap,cur,ho⟩:=h.open (els:=els) hr hcs hne
    obtain⟨r1,r2,r3,r4,r5,r6⟩:=qcf hels fun c hc=>by
     obtain⟨j,hj⟩:=List.mem_iff_getElem?.1 hc
     exact (ho.cell j c hj).1
    have hsz1:sz=1:=by
     have h0:(0:Nat)<els.length:=by omega
     obtain⟨m,hm,_⟩:=b2 0 els[0] (List.getElem?_eq_getElem h0)
     have:=(r5 els[0] (List.getElem_mem h0)).1
     rw[hm] at this;exact this.symm
    subst hsz1
    have hfn:∀j,j<n→∃m:Int,cur.getD (off+j) undef=.int .u8 m∧l[j]? = some (UInt8.ofNat m.toNat):=by
     intro j hj
     have hje:j<els.length:=by omega
     obtain⟨m,hm,hlm⟩:=b2 j els[j] (List.getElem?_eq_getElem hje)
     obtain⟨c,hc,hc2⟩:=r6 j 0 hj (by omega)
     rw[List.getElem?_eq_getElem hje,hm] at hc2
     simp only[Nat.mul_one,Nat.add_zero] at hc hc2
     have hcv:c=.int .u8 m:=by
      simp only[Option.bind_some,AV.cells,List.getElem?_cons_zero,Option.some.injEq] at hc2
      cases c<;>simp[dem] at hc2<;>simp[hc2]
     subst hcv
     have:=(ho.cell _ _ hc).2.1
     generalize cur.getD (off+j) undef=q at this
     cases this
     exact⟨m,rfl,hlm⟩
    have hlc:=ho.len
    have hld:=run_loadCells (P:=P) w ⟨blk,off,none⟩ n (fun j=>cur.getD (off+j) undef) (fun j hj=>by
     rw[add_lit,ho.heap.cell];exact qb6 (by omega))
    refine⟨blk,cap,(List.range n).map fun j=>numOf (cur.getD (off+j) undef),ho.v,?_,?_⟩
    ·apply List.ext_getElem?
     intro j
     simp only[List.map_map,List.getElem?_map]
     by_cases hj:j<n
     ·rw[List.getElem?_range hj]
      obtain⟨m,hm,hlm⟩:=hfn j hj
      simp only[Option.map_some,Function.comp,hm,hlm];rfl
     ·rw[List.getElem?_eq_none (by simpa using Nat.le_of_not_lt hj),List.getElem?_eq_none (by omega)];rfl
    ·rw[hld]
     congr 2
     apply List.ext_getElem?
     intro j
     simp only[List.map_map,List.getElem?_map]
     by_cases hj:j<n
     ·rw[List.getElem?_range hj]
      obtain⟨m,hm,hlm⟩:=hfn j hj
      simp only[Option.map_some,Function.comp,hm];rfl
     ·rw[List.getElem?_eq_none (by simpa using Nat.le_of_not_lt hj)];rfl
  have hrun:=run_bytesToString (P:=P) w ⟨blk,off,none⟩ n cap ns hload
  generalize hs:(List.foldl _ _ _)=s at hrun
  have hsl:s.data.toList=l:=by
   rw[← hs,foldl_push_bytes,← hns]
   simp
  refine qx (convert src dst (a.eval x)) rfl (v:=.string s) (w':=w) ?_ (k μ _ w h (by rw[← hsl];exact qz (.str s) (fun j=>by cases j<;>rfl) trivial))
  have hq:a.eval x=.slice (some ⟨blk,off,none⟩) n cap:=hv
  rw[show (convert src dst (a.eval x))=convert src dst (.slice (some ⟨blk,off,none⟩) n cap) from by rw[hq]]
  rw[run_convert_bytes_string w src dst el _ n cap (elem_eq hel) he hd]
  exact hrun
 ·obtain⟨r,hr,e⟩:=qa e
  simp only[Option.some.injEq,Prod.mk.injEq] at e
  obtain⟨rfl,rfl⟩:=e
  exact qni h hu hr
theorem quietLe {b j:Nat} {cs:List AV} {c:AV} (hl:st.s[b]? = some cs) (hj:cs[j]? = some c):Le {st with s:=st.s.set b (cs.set j (dem1 c))} st:=by
 have hb:b<st.s.length:=(List.getElem?_eq_some_iff.1 hl).1
 refine⟨fun i v e=>⟨v,e,.inl rfl⟩,fun d cs e=>⟨cs,e,CLe.refl _⟩,fun b' cs' e=>?_,by simp,id⟩
 simp only[List.getElem?_set] at e
 by_cases q:b=b'
 ·subst q
  simp[hb] at e;subst e
  refine⟨cs,hl,by simp,fun j' c' e=>?_⟩
  rw[List.getElem?_set] at e
  by_cases q:j=j'
  ·subst q
   have:j<cs.length:=(List.getElem?_eq_some_iff.1 hj).1
   simp[this] at e;subst e
   exact⟨c,hj,.inr rfl⟩
  ·rw[if_neg q] at e;exact⟨c',e,.inl rfl⟩
 ·rw[if_neg q] at e;exact⟨cs',e,CLe.refl _⟩
theorem Sim.quietCell {b j:Nat} {cs:List AV} {c:AV} (h:Sim B T0 μ0 w0 N μ lx a w st) (hl:st.s[b]? = some cs) (hj:cs[j]? = some c) :
  Sim B T0 μ0 w0 N μ lx a w {st with s:=st.s.set b (cs.set j (dem1 c))}:=h.le (quietLe hl hj)
theorem ql4 {d T pos af g t x} {st':St} {r:AV} {hh:Hint} (h:Sim B T0 μ0 w0 N μ lx a w st) (e:msLoad P hh t x st=some (r,st')) :
  Goal P B T0 μ0 w0 N lx a w ⟨d,.load t x,T,pos,af,g⟩ st' r:=by
 unfold msLoad at e
 split at e
 ·cases e
 obtain⟨p,hp,e⟩:=qa e
 split at e
 ·rename_i b off sh
  obtain⟨ag,hg,e⟩:=qa e
  obtain⟨cs,hl,e⟩:=qa e
  obtain⟨v,hc,e⟩:=qa e
  cases ag with
  | true=>cases e
  | false =>
   simp only[Bool.false_eq_true,if_false,Option.some.injEq,Prod.mk.injEq] at e
   obtain⟨rfl,rfl⟩:=e
   have hne:cs≠[]:=fun q=>by subst q;simp at hc
   have hf:=(qj h hp).1
   generalize hv:a.eval x=y at hf
   cases hf with
   | gp _ _ blk _ hq hs =>
    obtain⟨cur,ty,g1,g2,g3,g4⟩:=h.glb b cs blk hl hq hne
    have hlt:off<cur.size:=Nat.lt_of_lt_of_le (List.getElem?_eq_some_iff.1 hc).1 g2
    obtain⟨k1,k2,k3⟩:=g4 off v hc
    have hcell:w.cell? ⟨blk,off,none⟩=some (cur.getD off undef):=by
     rw[qae g1];simp[Array.getD_eq_getD_getElem?,hlt]
    have hsim:=h.quietCell hl hc
    have hb:b<st.s.length:=(List.getElem?_eq_some_iff.1 hl).1
    have hoff:off<cs.length:=(List.getElem?_eq_some_iff.1 hc).1
    intro K Q k
    refine qx (Instr.loadAt t (a.eval x)) rfl (v:=cur.getD off undef) (w':=w) ?_ (k μ _ w hsim ?_)
    ·simp only[Instr.loadAt,hv,Instr.sureAddr,Sem.run_bind,Sem.run_pure,Result.andThen_ok]
     simp[loadVar,Sem.run_bind,qco hg,Go.load,Sem.run,hcell]
    ·have how:∀k,exBlk (cur.getD off undef) v=some k→own a lx μ w st (.gc b off)=some k:=fun k e=>by
      simp only[own,ownB,hl,hq,Option.bind_some,hc,hcell];exact e
     refine⟨?_,fun j k e=>?_,fun j j' k e e'=>?_⟩
     ·cases v<;>first|exact⟨k2,k3⟩|cases k1
     ·cases j with
      | some j=>cases v<;>first|(simp[ownV] at e;done)|cases k1
      | none =>
       have ho:=how k e
       have hr:=h.rng _ k ho
       refine⟨hr.1,hr.2.1,hr.2.2,fun l e2=>?_⟩
       have hle:=own_le (quietLe hl hc) e2
       have:=h.inj _ _ k hle ho
       subst this
       simp only[own,ownB,List.getElem?_set,hq,Option.bind_some] at e2
       simp only[hb,if_true,Option.bind_some,List.getElem?_set,hoff,hcell] at e2
       cases v<;>simp[dem1,exBlk] at e2
     ·cases j with
      | some j=>cases v<;>first|(simp[ownV] at e;done)|cases k1
      | none=>cases j' with
       | none=>rfl
       | some j=>cases v<;>first|(simp[ownV] at e';done)|cases k1
 ·cases e
theorem qju {d T pos af g t x lo hi mx} {st':St} {r:AV} (h:Sim B T0 μ0 w0 N μ lx a w st) (e:msSlice P t x lo hi mx st=some (r,st')) :
  Goal P B T0 μ0 w0 N lx a w ⟨d,.slice t x lo hi mx,T,pos,af,g⟩ st' r:=by
 unfold msSlice at e
 split at e
 ·cases e
 obtain⟨u,hu,e⟩:=qa e
 split at e
 ·rename_i ty sz b off n
  obtain⟨el,hel,e⟩:=qa e
  obtain⟨sz',hsz,e⟩:=qa e
  obtain⟨h',hh,e⟩:=qa e
  obtain⟨hn,hhn,e⟩:=qa e
  obtain⟨l',hl,e⟩:=qa e
  obtain⟨ln,hln,e⟩:=qa e
  obtain⟨cs,hcs,e⟩:=qa e
  split at e
  rotate_left
  ·cases e
  rename_i hq
  obtain⟨hss,h0,hle⟩:=hq
  simp only[Option.some.injEq,Prod.mk.injEq] at e
  obtain⟨rfl,rfl⟩:=e
  subst hss h0
  intro K Q k
  have hr:=(qj h hu).1
  generalize hx:a.eval x=v at hr
  cases hr with
  | ms _ _ _ _ _ blk cap hb hs hc hm' hsz0 =>
   have hcap:hn≤cap:=by
    by_cases hne:cs=[]
    ·subst hne
     simp at hle
     rcases Nat.eq_zero_or_pos hn with q|q
     ·omega
     ·have:=Nat.mul_pos q hsz0;omega
    ·obtain⟨cur,ty',g1,g2,_,_⟩:=h.glb b cs blk hcs hb hne
     have hsh:=g1.shape
     rw[hs] at hsh
     simp only[Option.some.injEq,Prod.mk.injEq] at hsh
     have:hn*sz'≤cap*sz':=by omega
     exact Nat.le_of_mul_le_mul_right this hsz0
   have hbo:(Instr.sliceBounds true n cap (lo.map a.eval) (hi.map a.eval) none).run P w=.ok (0,hn,cap) w:=by
    rcases qcc h hh hhn with ⟨q1,q2⟩|⟨k1,m1,q1,q2,q3⟩
    ·subst q2
     exact qcp hc (.inl ⟨q1,rfl⟩) (qcc h hl hln) (Nat.zero_le _) (Nat.le_refl _)
    ·have:=qcp (P:=P) (w:=w) (sl:=true) (len:=cap) (cap:=cap) (lo:=lo.map a.eval) (hi:=hi.map a.eval) (l:=0) (h:=hn) (Nat.le_refl _) (.inr ⟨k1,m1,q1,q2,q3⟩) (qcc h hl hln) (Nat.zero_le _) hcap
     rw[q1] at this ⊢
     simpa[Instr.sliceBounds] using this
   have hrun:(Instr.sliceAt t (a.eval x) (lo.map a.eval) (hi.map a.eval) ((none:Option Operand).map a.eval)).run P w=.ok (.slice (some ⟨blk,off,none⟩) hn cap) w:=by
    rw[hx]
    simp[Instr.sliceAt,Instr.slice,run_underlying (elem_eq hel),hbo,qac hsz,add_lit]
   refine qx _ rfl hrun (k μ _ w h (qz ?_ (fun j=>by cases j<;>rfl) trivial))
   exact .ms ty sz' b off hn blk cap hb hs hcap hm' hsz0
 ·cases e
theorem ql5 {o:Oper} {st':St} {av:AV} {hh:Hint} (h:Sim B T0 μ0 w0 N μ lx a w st) (e:msOp P hh o st=some (av,st')):Goal P B T0 μ0 w0 N lx a w o st' av:=by
 obtain⟨d,op,T,pos,af,g⟩:=o
 unfold msOp at e
 split at e
 ·rename_i t n ps hop
  simp only at hop;subst hop
  obtain⟨el,hel,e⟩:=qa e
  obtain⟨sz,hsz,e⟩:=qa e
  obtain⟨z,hz,e⟩:=qa e
  obtain⟨l,hl,e⟩:=qa e
  split at e
  ·cases e
  ·rename_i hok
   obtain⟨els,hels,e⟩:=qa e
   simp only[Option.some.injEq,Prod.mk.injEq] at e
   obtain⟨rfl,rfl⟩:=e
   exact qeo h hel hsz hz hl hok hels
 ·rename_i t l c hop
  simp only at hop;subst hop
  obtain⟨el,hel,e⟩:=qa e
  obtain⟨sz,hsz,e⟩:=qa e
  obtain⟨by_,hby,e⟩:=qa e
  obtain⟨z,hz,e⟩:=qa e
  obtain⟨lv,hlv,e⟩:=qa e
  obtain⟨ln,hln,e⟩:=qa e
  obtain⟨cv,hcv,e⟩:=qa e
  obtain⟨cn,hcn,e⟩:=qa e
  split at e
  ·cases e
  ·rename_i hok
   obtain⟨⟨h1,h2⟩,e⟩:=qo e
   simp only[Option.some.injEq,Prod.mk.injEq] at e
   obtain⟨rfl,rfl⟩:=e
   exact qfd h hel hsz hby hz hlv hln hcv hcn hok h1 h2
 ·rename_i src dst x hop
  simp only at hop;subst hop
  exact ql3 (u:=.nilp) h e
 ·rename_i t x hop
  simp only at hop;subst hop
  exact ql4 h e
 ·rename_i t x lo hi mx hop
  simp only at hop;subst hop
  exact qju h e
 ·rename_i c hop
  simp only at hop;subst hop
  obtain⟨callee,xs,ts⟩:=c
  split at e
  ·rename_i x y t t' hc hxs hts
   simp only at hc hxs hts
   subst hc
   obtain⟨xs⟩:=xs;obtain⟨ts⟩:=ts
   simp only at hxs hts;subst hxs;subst hts
   unfold msAppend at e
   obtain⟨el,hel,e⟩:=qa e
   obtain⟨sz,hsz,e⟩:=qa e
   obtain⟨by_,hby,e⟩:=qa e
   obtain⟨z,hz,e⟩:=qa e
   split at e
   ·cases e
   ·rename_i hok
    obtain⟨⟨u,s1⟩,hu,e⟩:=qa e
    obtain⟨b,hb,e⟩:=qa e
    obtain⟨ys,hys,e⟩:=qa e
    simp only at e hb hys
    have hsz0:0<sz:=by omega
    split at e
    ·rename_i ty sz' bb n
     split at e
     ·rename_i hq
      obtain⟨q1,q2,hn⟩:=hq
      subst q1;subst q2
      obtain⟨cs,hcs,e⟩:=qa e
      obtain⟨⟨hcl,hall,hlen⟩,e⟩:=qo e
      simp only[Option.some.injEq,Prod.mk.injEq] at e
      obtain⟨rfl,rfl⟩:=e
      exact qiq h hel hsz hby hz hok hu (fun h1=>qc4 h1 hb hys hall hsz0) hn hcs hcl hall hlen
     ·cases e
    ·rename_i xs
     split at e
     ·obtain⟨⟨hx,hne,hall,hlen⟩,e⟩:=qo e
      simp only[Option.some.injEq,Prod.mk.injEq] at e
      obtain⟨rfl,rfl⟩:=e
      subst hx
      exact qdw h hel hsz hby hz hok hu (fun h1=>qc4 h1 hb hys hall hsz0) (.inl rfl) hne hall hlen
     ·obtain⟨⟨hall,hlen⟩,e⟩:=qo e
      simp only[Option.some.injEq,Prod.mk.injEq] at e
      obtain⟨rfl,rfl⟩:=e
      obtain⟨h1,r1,_⟩:=take_sound h hu
      have hx:=(Rep.nil_val r1.full.1).2
      subst hx
      exact qce h hel hsz hby hz hok hu (fun h1=>qc4 h1 hb hys hall hsz0) (.inl rfl) hall (by simpa using hlen)
    ·rename_i e' n xs
     split at e
     ·rename_i hq
      obtain⟨q1,q2⟩:=hq
      subst q1;subst q2
      split at e
      ·obtain⟨⟨hx,hne,hall,hlen⟩,e⟩:=qo e
       simp only[Option.some.injEq,Prod.mk.injEq] at e
       obtain⟨rfl,rfl⟩:=e
       subst hx
       exact qdw h hel hsz hby hz hok hu (fun h1=>qc4 h1 hb hys hall hsz0) (.inr rfl) hne hall hlen
      ·obtain⟨⟨hall,hlen⟩,e⟩:=qo e
       simp only[Option.some.injEq,Prod.mk.injEq] at e
       obtain⟨rfl,rfl⟩:=e
       exact qce h hel hsz hby hz hok hu (fun h1=>qc4 h1 hb hys hall hsz0) (.inr rfl) hall hlen
     ·cases e
    ·cases e
  ·rename_i x y t t' hc hxs hts
   simp only at hc hxs hts
   subst hc
   obtain⟨xs⟩:=xs;obtain⟨ts⟩:=ts
   simp only at hxs hts;subst hxs;subst hts
   unfold msCopy at e
   obtain⟨p,hp,e⟩:=qa e
   obtain⟨b,hb,e⟩:=qa e
   obtain⟨ys,hys,e⟩:=qa e
   split at e
   ·rename_i ty sz bb off n
    split at e
    ·rename_i hq
     obtain⟨q1,q2,q3⟩:=hq
     obtain⟨cs,hcs,e⟩:=qa e
     obtain⟨⟨hall,hn,hyn,hfit⟩,e⟩:=qo e
     simp only[Option.some.injEq,Prod.mk.injEq] at e
     obtain⟨rfl,rfl⟩:=e
     exact ql2 h q1 q2 q3 hp (qc4 h hb hys hall q3) hcs hall hn hyn hfit
    ·cases e
   ·cases e
  ·cases e
 ·cases e
end
end Go.AI
end
section
namespace Go.AI
open Go.RowKit
set_option linter.unusedVariables false
def ACalls (P:Program) (B:Nat) (W0:World) (f:FuncId) (as:List AV) (s:List (List AV)) (r:AV) (s':List (List AV)):Prop :=
 ∀(T:Nat→Prop) (μ:Gh) (w:World) (vs:Array Value),vs.size=as.length→Below B W0 w →
  Sim B T μ w vs.size μ (fun _=>none) ⟨vs,[]⟩ w ⟨params 0 as,[],s⟩ →
  Calls P f vs w fun e w'=>∃v μ',e=.returned v∧Sim B T μ w 1 μ' (fun _=>none) ⟨#[v],[]⟩ w' ⟨[(0,r)],[],s'⟩
def Enters (P:Program) (f:FuncId):Prop:=∃fn,P.funcs[f]? = some fn∧fn.body.isSome=true∧(fn.name== "runtime.NumGoroutine")=false
theorem qau {P:Program} {f:FuncId} (h:Enters P f) (args:Array Value) (w:World):(callFunc f args).run P w=.ok (.enter f args) w:=by
 obtain⟨fn,hf,hb,hn⟩:=h
 have hb':¬fn.body=none:=by cases hq:fn.body<;>simp_all
 have hn':¬fn.name= "runtime.NumGoroutine":=by simpa using hn
 simp[callFunc,hf,hn',hb']
theorem qbs (as:List AV):∀(k i:Nat),look (params k as) i=if k≤i then as[i-k]? else none:=by
 induction as with
 | nil=>intro k i;simp[params,look]
 | cons a r ih =>
  intro k i
  simp only[params,look]
  by_cases hk:k=i
  ·subst hk;simp
  ·rw[if_neg hk,ih]
   by_cases h1:k≤i
   ·rw[if_pos h1,if_pos (by omega),show i-k=(i-(k+1))+1 by omega];simp
   ·rw[if_neg h1,if_neg (by omega)]
theorem qfe (as:List AV):∀k,(params k as).map (·.1)=List.range' k as.length:=by
 induction as with
 | nil=>intro k;rfl
 | cons a r ih=>intro k;simp[params,ih,List.range'_succ]
section
variable {P:Program} {B:Nat} {T0:Nat→Prop} {μ0:Gh} {w0:World} {N:Nat} {μ:Gh} {lx:Nat→Option Nat} {a:Act} {w:World} {st:St}
def held (a:Act) (lx:Nat→Option Nat) (μ:Gh) (w:World) (st:St) (k:Nat):Prop:=(∃b,own a lx μ w st (.g b)=some k)∨∃b j,own a lx μ w st (.gc b j)=some k
theorem Sim.entryX {as:List AV} {vs:Array Value} {X:Nat→Prop} (h:Sim B T0 μ0 w0 N μ lx a w st) (hl:vs.size=as.length)
  (hv:∀(j:Nat) (c:AV),as[j]? = some c→Rep B μ w (vs.getD j undef) c∧pers c=true∧Tk1 B μ w (vs.getD j undef) c∧∀k,exBlk (vs.getD j undef) c=some k→X k)
  (hx:∀k,X k→B≤k∧k<w.heap.size∧∀l,own a lx μ w st l≠some k)
  (hx1:∀(j j':Nat) (c c':AV) (k:Nat),as[j]? = some c→as[j']? = some c'→exBlk (vs.getD j undef) c=some k→exBlk (vs.getD j' undef) c'=some k→j=j') :
  Sim B (fun k=>held a lx μ w st k∨X k) μ w vs.size μ (fun _=>none) ⟨vs,[]⟩ w ⟨params 0 as,[],st.s⟩:=by
 have hlook:∀i v,look (params 0 as) i=some v→as[i]? = some v:=fun i v e=>by rw[qbs] at e;simpa using e
 have hyes:∀i j k,own ⟨vs,[]⟩ (fun _=>none) μ w ⟨params 0 as,[],st.s⟩ (.t i j)=some k→j=none∧∃c,as[i]? = some c∧exBlk (vs.getD i undef) c=some k:=by
  intro i j k e
  simp only[own] at e
  cases hq:look (params 0 as) i with
  | none=>simp[hq] at e
  | some v =>
   rw[hq] at e
   have:=hv i v (hlook i v hq)
   cases j with
   | none=>simp only[Option.bind_some,ownV] at e;exact⟨rfl,v,hlook i v hq,e⟩
   | some j=>cases v<;>first|(simp[ownV] at e;done)|simp[pers] at this
 constructor
 ·exact h.mdf.symm
 ·rfl
 ·exact Ext.refl _ _ _ _
 ·intro i v e
  have:=hv i v (hlook i v e)
  have ht:Tk1 B μ w (vs.getD i undef) v:=this.2.2.1
  cases v with
  | lp d i=>simp[pers] at this
  | tup xs=>simp[pers] at this
  | _=>exact⟨this.1,ht⟩
 ·intro d cs e;simp[look] at e
 ·exact h.glb
 ·exact h.gdom
 ·have far:∀i j l' k,own ⟨vs,[]⟩ (fun _=>none) μ w ⟨params 0 as,[],st.s⟩ (.t i j)=some k→own a lx μ w st l'≠some k:=by
   intro i j l' k e
   obtain⟨_,c,hc,hk⟩:=hyes i j k e
   exact (hx k ((hv i c hc).2.2.2 k hk)).2.2 l'
  intro l l' k e e'
  cases l with
  | t i j=>cases l' with
   | t i' j' =>
    obtain⟨rfl,c,hc,hk⟩:=hyes i j k e
    obtain⟨rfl,c',hc',hk'⟩:=hyes i' j' k e'
    rw[hx1 i i' c c' k hc hc' hk hk']
   | l d=>simp[own,look] at e'
   | lc d j=>simp[own,look,ownB] at e'
   | g b'=>exact absurd (show own a lx μ w st (.g b')=some k from e') (far i j _ k e)
   | gc b' j'=>exact absurd (show own a lx μ w st (.gc b' j')=some k from e') (far i j _ k e)
  | l d=>simp[own,look] at e
  | lc d j=>simp[own,look,ownB] at e
  | g b=>cases l' with
   | t i j=>exact absurd (show own a lx μ w st (.g b)=some k from e) (far i j _ k e')
   | l d=>simp[own,look] at e'
   | lc d j=>simp[own,look,ownB] at e'
   | g b'=>exact h.inj _ _ k e e'
   | gc b' j'=>exact h.inj _ _ k e e'
  | gc b j=>cases l' with
   | t i j=>exact absurd (show own a lx μ w st (.gc _ _)=some k from e) (far i _ _ k e')
   | l d=>simp[own,look] at e'
   | lc d j=>simp[own,look,ownB] at e'
   | g b'=>exact h.inj _ _ k e e'
   | gc b' j'=>exact h.inj _ _ k e e'
 ·intro l k e
  cases l with
  | t i j =>
   obtain⟨_,c,hc,hk⟩:=hyes i j k e
   have hX:=(hv i c hc).2.2.2 k hk
   exact⟨(hx k hX).1,(hx k hX).2.1,.inl (.inr hX)⟩
  | l d=>simp[own,look] at e
  | lc d j=>simp[own,look,ownB] at e
  | g b=>have:=h.rng (.g b) k e;exact⟨this.1,this.2.1,.inl (.inl (.inl ⟨b,e⟩))⟩
  | gc b j=>have:=h.rng (.gc b j) k e;exact⟨this.1,this.2.1,.inl (.inl (.inr ⟨b,j,e⟩))⟩
 ·exact h.fr0
 ·exact h.hB
 ·rw[qfe];exact List.nodup_range'
 ·exact h.gbx
 ·exact h.mdf
def noX:Nat→Prop:=fun _=>False
theorem Sim.entry {as:List AV} {vs:Array Value} (h:Sim B T0 μ0 w0 N μ lx a w st) (hl:vs.size=as.length)
  (hv:∀(j:Nat) (c:AV),as[j]? = some c→Rep B μ w (vs.getD j undef) c∧pers c=true∧quiet c=true) :
  Sim B (fun k=>held a lx μ w st k∨noX k) μ w vs.size μ (fun _=>none) ⟨vs,[]⟩ w ⟨params 0 as,[],st.s⟩ :=
 h.entryX hl (fun j c hc=>⟨(hv j c hc).1,(hv j c hc).2.1,qaq (hv j c hc).2.2,fun k hk=>by rw[qt (hv j c hc).2.2] at hk;cases hk⟩) (fun k hk=>hk.elim)
  (fun j j' c c' k hc hc' hk _=>by rw[qt (hv j c hc).2.2] at hk;cases hk)
theorem Sim.call {X:Nat→Prop} {μ':Gh} {w':World} {v:Value} {r:AV} {s':List (List AV)} (h:Sim B T0 μ0 w0 N μ lx a w st)
  (hX:∀k,X k→(T0 k∨w0.heap.size≤k)∧∀l,own a lx μ w st l≠some k)
  (hr:Sim B (fun k=>held a lx μ w st k∨X k) μ w 1 μ' (fun _=>none) ⟨#[v],[]⟩ w' ⟨[(0,r)],[],s'⟩) :
  Sim B T0 μ0 w0 N μ' lx a w' {st with s:=s'}∧Res B T0 w0 μ' lx a w' {st with s:=s'} v r:=by
 have x:=hr.ext
 have hsz:=x.below.size
 have hfree:∀l k,(∀b,l≠.g b)→(∀b j,l≠.gc b j)→own a lx μ w st l=some k→¬(held a lx μ w st k∨X k):=by
  rintro l k n1 n2 e ((⟨b,hb⟩|⟨b,j,hb⟩)|hk)
  ·exact n1 b (h.inj _ _ k e hb)
  ·exact n2 b j (h.inj _ _ k e hb)
  ·exact (hX k hk).2 l e
 have hcell:∀blk j,(∃l,(∀b,l≠.g b)∧(∀b j,l≠.gc b j)∧own a lx μ w st l=some blk)→w'.cell? ⟨blk,j,none⟩=w.cell? ⟨blk,j,none⟩:=by
  rintro blk j ⟨l,n1,n2,hl⟩
  exact qbp (x.same blk (h.rng l blk hl).2.1 (hfree l blk n1 n2 hl)).1
 have hown:∀l,(∀b,l≠.g b)→(∀b j,l≠.gc b j)→own a lx μ' w' {st with s:=s'} l=own a lx μ w st l:=by
  intro l n1 n2
  cases l with
  | t i j=>rfl
  | l d=>rfl
  | lc d j =>
   simp only[own,ownB]
   cases hc:look st.l d with
   | none=>rfl
   | some cs =>
    obtain⟨blk,hb,_⟩:=h.loc d cs hc
    simp only[hb,Option.bind_some]
    rw[hcell blk j ⟨.l d,by simp,by simp,by simp[own,hc,hb]⟩]
  | g b=>exact absurd rfl (n1 b)
  | gc b j=>exact absurd rfl (n2 b j)
 have hst:∀l k,((∃b,l=.g b)∨∃b j,l=.gc b j)→own a lx μ' w' {st with s:=s'} l=some k→own ⟨#[v],[]⟩ (fun _=>none) μ' w' ⟨[(0,r)],[],s'⟩ l=some k:=by
  rintro l k (⟨b,rfl⟩|⟨b,j,rfl⟩) e
  ·exact e
  ·exact e
 have hfar:∀l k,own ⟨#[v],[]⟩ (fun _=>none) μ' w' ⟨[(0,r)],[],s'⟩ l=some k→∀l',(∀b,l'≠.g b)→(∀b j,l'≠.gc b j)→own a lx μ w st l'≠some k:=by
  intro l k e l' n1 n2 e'
  have h1:=h.rng l' k e'
  rcases (hr.rng l k e).2.2 with h2|h2
  ·exact hfree l' k n1 n2 e' h2
  ·omega
 have kind:∀l:Loc,((∀b,l≠.g b)∧(∀b j,l≠.gc b j))∨((∃b,l=.g b)∨∃b j,l=.gc b j):=by
  intro l;cases l
  ·exact .inl ⟨by simp,by simp⟩
  ·exact .inl ⟨by simp,by simp⟩
  ·exact .inl ⟨by simp,by simp⟩
  ·exact .inr (.inl ⟨_,rfl⟩)
  ·exact .inr (.inr ⟨_,_,rfl⟩)
 have hTT:∀k,(held a lx μ w st k∨X k)→T0 k∨w0.heap.size≤k:=by
  rintro k ((⟨b,hb⟩|⟨b,j,hb⟩)|hk)
  ·exact (h.rng _ k hb).2.2
  ·exact (h.rng _ k hb).2.2
  ·exact (hX k hk).1
 have hTT':∀k,(held a lx μ w st k∨X k)∨w.heap.size≤k→T0 k∨w0.heap.size≤k:=by
  rintro k (hk|hk)
  ·exact hTT k hk
  ·exact .inr (Nat.le_trans h.ext.below.size hk)
 have o0:∀j k,ownV v r j=some k→own ⟨#[v],[]⟩ (fun _=>none) μ' w' ⟨[(0,r)],[],s'⟩ (.t 0 j)=some k:=fun j k hk=>by
  simp only[own,look,if_true,Option.bind_some];exact hk
 refine⟨?_,⟨?_,fun j k hk=>?_,fun j j' k e e'=>?_⟩⟩
 ·constructor
  ·exact h.defs
  ·exact h.size
  ·exact h.ext.trans x fun b hb t=>by
    rcases hTT b t with t|t
    ·exact t
    ·omega
  ·intro i u hu
   exact (h.tmp i u hu).ext x fun j k hk=>hfree (.t i j) k (by simp) (by simp) (by simp only[own,hu,Option.bind_some];exact hk)
  ·intro d cs hc
   obtain⟨blk,hb,hB⟩:=h.loc d cs hc
   exact⟨blk,hb,hB.ext x (hfree (.l d) blk (by simp) (by simp) (by simp[own,hc,hb])) fun j k hk=>hfree (.lc d j) k (by simp) (by simp) (by simp only[own,hc,hb];exact hk)⟩
  ·exact hr.glb
  ·exact hr.gdom
  ·intro l l' k e e'
   rcases kind l with ⟨n1,n2⟩|k1<;>rcases kind l' with ⟨n1',n2'⟩|k1'
   ·rw[hown l n1 n2] at e;rw[hown l' n1' n2'] at e';exact h.inj l l' k e e'
   ·rw[hown l n1 n2] at e;exact absurd e (hfar l' k (hst l' k k1' e') l n1 n2)
   ·rw[hown l' n1' n2'] at e';exact absurd e' (hfar l k (hst l k k1 e) l' n1' n2')
   ·exact hr.inj l l' k (hst l k k1 e) (hst l' k k1' e')
  ·intro l k e
   rcases kind l with ⟨n1,n2⟩|k1
   ·rw[hown l n1 n2] at e
    have:=h.rng l k e
    exact⟨this.1,Nat.lt_of_lt_of_le this.2.1 hsz,this.2.2⟩
   ·have:=hr.rng l k (hst l k k1 e)
    exact⟨this.1,this.2.1,hTT' k this.2.2⟩
  ·exact hr.fr0
  ·exact hr.hB
  ·exact h.nd
  ·exact hr.gbx
  ·exact hr.mdf
 ·have:=hr.tmp 0 r (by simp[look])
  cases r with
  | lp d i=>obtain⟨blk,hb,_⟩:=this;cases hb
  | _=>exact this
 ·have e0:=o0 j k hk
  have:=hr.rng _ k e0
  refine⟨this.1,this.2.1,hTT' k this.2.2,fun l hl=>?_⟩
  rcases kind l with ⟨n1,n2⟩|k1
  ·rw[hown l n1 n2] at hl;exact hfar _ k e0 l n1 n2 hl
  ·have:=hr.inj _ _ k e0 (hst l k k1 hl)
   rcases k1 with ⟨b,rfl⟩|⟨b,j,rfl⟩<;>cases this
 ·have:=hr.inj _ _ k (o0 j k e) (o0 j' k e')
  injection this
theorem qnj {d T pos af g f ts} {xs : Array Operand} {gf : FuncId} {cap us vs : List AV} {r : AV} {s' : List (List AV)} {W0 : World} (h : Sim B T0 μ0 w0 N μ lx a w st) (hW : Below B W0 w0)
    (hf : aeval st f = some (.fn gf cap)) (hu : aevals st xs.toList = some us) (hv : args us = some vs) (hE : Enters P gf) (hC : ACalls P B W0 gf (vs ++ cap) st.s r s') :
    Goal P B T0 μ0 w0 N lx a w ⟨d, .call { callee := .value f, args := xs, argTypes := ts }, T, pos, af, g⟩ { st with s := s' } r := by
  intro K Q k
  obtain ⟨a1, a2⟩ := qax h hu hv
  have hr := (qj h hf).1
  generalize hx : a.eval f = fv at hr
  cases hr with
  | fn gf caps cs hl hp hh =>
    have hsz : (xs.map a.eval ++ caps).size = (vs ++ cap).length := by
      simp only [Array.size_append, Array.size_map, List.length_append, hl]
      have : xs.toList.length = xs.size := by simp
      omega
    have hval : ∀ (j : Nat) (c : AV), (vs ++ cap)[j]? = some c → Rep B μ w ((xs.map a.eval ++ caps).getD j undef) c ∧ pers c = true ∧ quiet c = true := by
      intro j c hc
      have hxl : xs.size = vs.length := by have : xs.toList.length = xs.size := by simp
                                           omega
      by_cases hj : j < vs.length
      · rw [List.getElem?_append_left hj] at hc
        have := a2 j c hc
        have e : (xs.map a.eval ++ caps).getD j undef = ((xs.toList.map a.eval).toArray).getD j undef := by
          simp only [Array.getD_eq_getD_getElem?]
          rw [Array.getElem?_append_left (by simp; omega)]
          simp
        rw [e]
        exact ⟨this.1, this.2.2.2⟩
      · rw [List.getElem?_append_right (by omega)] at hc
        have e : (xs.map a.eval ++ caps).getD j undef = caps.getD (j - vs.length) undef := by
          simp only [Array.getD_eq_getD_getElem?]
          rw [Array.getElem?_append_right (by simp; omega)]
          simp [hxl]
        rw [e]
        exact ⟨hh _ c hc, hp c (List.mem_of_getElem? hc)⟩
    have hent := h.entry hsz hval
    have hcall := hC (fun k => held a lx μ w st k ∨ noX k) μ w (xs.map a.eval ++ caps) hsz (hW.trans h.ext.below) hent
    unfold Oper.wp
    have hex : (execOp a.eval ⟨d, .call { callee := .value f, args := xs, argTypes := ts }, T, pos, af, g⟩).run P w = .ok (.enter gf (xs.map a.eval ++ caps)) w := by
      simp [execOp, resolve, hx, Deferred.ofValue, invoke, qau hE]
    rw [hex]
    show Calls P gf (xs.map a.eval ++ caps) w _
    refine hcall.mono fun e w' hw' => ?_
    obtain ⟨v, μ', rfl, hs⟩ := hw'
    obtain ⟨s1, s2⟩ := h.call (fun _ hk => hk.elim) hs
    exact k μ' v w' s1 s2
theorem ql6 {d T pos af g f ts} {xs : Array Operand} {gf : FuncId} {cap us vs bs : List AV} {i : Option Nat} {st1 : St} {r : AV} {s' : List (List AV)} {W0 : World} (h : Sim B T0 μ0 w0 N μ lx a w st) (hW : Below B W0 w0)
    (hf : aeval st f = some (.fn gf cap)) (hu : aevals st xs.toList = some us) (hv : args us = some vs) (hm : moved st xs.toList vs i = some (bs, st1)) (hE : Enters P gf) (hC : ACalls P B W0 gf (bs ++ cap) st1.s r s') :
    Goal P B T0 μ0 w0 N lx a w ⟨d, .call { callee := .value f, args := xs, argTypes := ts }, T, pos, af, g⟩ { st1 with s := s' } r := by
  cases i with
  | none =>
    simp only [moved, Option.some.injEq, Prod.mk.injEq] at hm
    obtain ⟨rfl, rfl⟩ := hm
    exact qnj h hW hf hu hv hE hC
  | some i =>
    simp only [moved] at hm
    obtain ⟨x, hx, hm⟩ := qa hm
    obtain ⟨⟨v, s1⟩, ht, hm⟩ := qa hm
    simp only at hm
    split at hm
    rotate_left
    · simp only [Option.some.injEq, Prod.mk.injEq] at hm
      obtain ⟨rfl, rfl⟩ := hm
      exact qnj h hW hf hu hv hE hC
    · cases hm
    · rename_i ty sz ys
      simp only [Option.some.injEq, Prod.mk.injEq] at hm
      obtain ⟨rfl, rfl⟩ := hm
      obtain ⟨h1, hres, hl1, hs1⟩ := take_sound h ht
      intro K Q k
      obtain ⟨a1, a2⟩ := qax h hu hv
      have hr := (qj h hf).1
      generalize hxf : a.eval f = fv at hr
      cases hr with
      | fn gf caps cs hl hp hh =>
        have hsz : (xs.map a.eval ++ caps).size = (vs.set i (.sl (.ex ty sz) ys) ++ cap).length := by
          simp only [Array.size_append, Array.size_map, List.length_append, List.length_set, hl]
          have : xs.toList.length = xs.size := by simp
          omega
        have hxl : xs.size = vs.length := by have : xs.toList.length = xs.size := by simp
                                             omega
        have hil : i < vs.length := by
          have := (List.getElem?_eq_some_iff.1 hx).1
          simp at this; omega
        have hxi : (xs.map a.eval ++ caps).getD i undef = a.eval x := by
          simp only [Array.getD_eq_getD_getElem?]
          rw [Array.getElem?_append_left (by simp; omega)]
          have : xs[i]? = some x := by simpa using hx
          simp [this]
        have hval : ∀ (j : Nat) (c : AV), (vs.set i (.sl (.ex ty sz) ys) ++ cap)[j]? = some c → (j = i ∧ c = .sl (.ex ty sz) ys) ∨ (Rep B μ w ((xs.map a.eval ++ caps).getD j undef) c ∧ pers c = true ∧ quiet c = true) := by
          intro j c hc
          by_cases hj : j < vs.length
          · rw [List.getElem?_append_left (by simpa using hj), List.getElem?_set] at hc
            by_cases hji : i = j
            · subst hji
              rw [if_pos rfl, if_pos hil] at hc
              injection hc with hc
              exact .inl ⟨rfl, hc.symm⟩
            · rw [if_neg hji] at hc
              have := a2 j c hc
              have e : (xs.map a.eval ++ caps).getD j undef = ((xs.toList.map a.eval).toArray).getD j undef := by
                simp only [Array.getD_eq_getD_getElem?]
                rw [Array.getElem?_append_left (by simp; omega)]
                simp
              rw [e]
              exact .inr ⟨this.1, this.2.2.2⟩
          · rw [List.getElem?_append_right (by simp; omega), List.length_set] at hc
            have e : (xs.map a.eval ++ caps).getD j undef = caps.getD (j - vs.length) undef := by
              simp only [Array.getD_eq_getD_getElem?]
              rw [Array.getElem?_append_right (by simp; omega)]
              simp [hxl]
            rw [e]
            exact .inr ⟨hh _ c hc, hp c (List.mem_of_getElem? hc)⟩
        have hXf : ∀ k, exBlk (a.eval x) (.sl (.ex ty sz) ys) = some k → B ≤ k ∧ k < w.heap.size ∧ (T0 k ∨ w0.heap.size ≤ k) ∧ ∀ l, own a lx μ w s1 l ≠ some k := fun k hk => hres.tok none k hk
        have hent := h1.entryX (X := fun k => exBlk (a.eval x) (.sl (.ex ty sz) ys) = some k) hsz (fun j c hc => by
            rcases hval j c hc with ⟨rfl, rfl⟩ | hq
            · rw [hxi]
              exact ⟨hres.full.1, rfl, hres.full.2, fun k hk => hk⟩
            · exact ⟨hq.1, hq.2.1, qaq hq.2.2, fun k hk => by rw [qt hq.2.2] at hk; cases hk⟩)
          (fun k hk => ⟨(hXf k hk).1, (hXf k hk).2.1, (hXf k hk).2.2.2⟩)
          (fun j j' c c' k hc hc' hk hk' => by
            rcases hval j c hc with ⟨rfl, rfl⟩ | hq
            · rcases hval j' c' hc' with ⟨rfl, rfl⟩ | hq'
              · rfl
              · rw [qt hq'.2.2] at hk'; cases hk'
            · rw [qt hq.2.2] at hk; cases hk)
        have hcall := hC (fun k => held a lx μ w s1 k ∨ exBlk (a.eval x) (.sl (.ex ty sz) ys) = some k) μ w (xs.map a.eval ++ caps) hsz (hW.trans h.ext.below) hent
        unfold Oper.wp
        have hex : (execOp a.eval ⟨d, .call { callee := .value f, args := xs, argTypes := ts }, T, pos, af, g⟩).run P w = .ok (.enter gf (xs.map a.eval ++ caps)) w := by
          simp [execOp, resolve, hxf, Deferred.ofValue, invoke, qau hE]
        rw [hex]
        show Calls P gf (xs.map a.eval ++ caps) w _
        refine hcall.mono fun e w' hw' => ?_
        obtain ⟨v, μ', rfl, hs⟩ := hw'
        obtain ⟨q1, q2⟩ := h1.call (fun k hk => ⟨(hXf k hk).2.2.1, (hXf k hk).2.2.2⟩) hs
        exact k μ' v w' q1 q2
theorem ql7 {d T pos af g f ts} {xs:Array Operand} {gf:FuncId} {cap us vs:List AV} {r:AV} {s':List (List AV)} {W0:World} (h:Sim B T0 μ0 w0 N μ lx a w st) (hW:Below B W0 w0)
  (hf:aeval st f=some (.fb gf cap)) (hu:aevals st xs.toList=some us) (hv:args us=some vs) (hE:Enters P gf) (hC:ACalls P B W0 gf (cap++vs) st.s r s') :
  Goal P B T0 μ0 w0 N lx a w ⟨d,.call {callee:=.value f,args:=xs,argTypes:=ts},T,pos,af,g⟩ {st with s:=s'} r:=by
 intro K Q k
 obtain⟨a1,a2⟩:=qax h hu hv
 have hr:=(qj h hf).1
 generalize hx:a.eval f=fv at hr
 cases hr with
 | fb gf caps cs hl hp hh =>
  have hsz:(caps++xs.map a.eval).size=(cap++vs).length:=by
   simp only[Array.size_append,Array.size_map,List.length_append,hl]
   have:xs.toList.length=xs.size:=by simp
   omega
  have hval:∀(j:Nat) (c:AV),(cap++vs)[j]? = some c→Rep B μ w ((caps++xs.map a.eval).getD j undef) c∧pers c=true∧quiet c=true:=by
   intro j c hc
   by_cases hj:j<cap.length
   ·rw[List.getElem?_append_left hj] at hc
    have e:(caps++xs.map a.eval).getD j undef=caps.getD j undef:=by
     simp only[Array.getD_eq_getD_getElem?]
     rw[Array.getElem?_append_left (by omega)]
    rw[e]
    exact⟨hh _ c hc,hp c (List.mem_of_getElem? hc)⟩
   ·rw[List.getElem?_append_right (by omega)] at hc
    have:=a2 _ c hc
    have e:(caps++xs.map a.eval).getD j undef=((xs.toList.map a.eval).toArray).getD (j-cap.length) undef:=by
     simp only[Array.getD_eq_getD_getElem?]
     rw[Array.getElem?_append_right (by omega),hl]
     simp
    rw[e]
    exact⟨this.1,this.2.2.2⟩
  have hent:=h.entry hsz hval
  have hcall:=hC (fun k=>held a lx μ w st k∨noX k) μ w (caps++xs.map a.eval) hsz (hW.trans h.ext.below) hent
  unfold Oper.wp
  have hex:(execOp a.eval ⟨d,.call {callee:=.value f,args:=xs,argTypes:=ts},T,pos,af,g⟩).run P w=.ok (.enter gf (caps++xs.map a.eval)) w:=by
   simp[execOp,resolve,hx,Deferred.ofValue,invoke,qau hE]
  rw[hex]
  show Calls P gf (caps++xs.map a.eval) w _
  refine hcall.mono fun e w' hw'=>?_
  obtain⟨v,μ',rfl,hs⟩:=hw'
  obtain⟨s1,s2⟩:=h.call (fun _ hk=>hk.elim) hs
  exact k μ' v w' s1 s2
theorem qnk {d T pos af g f ts} {name:String} {xs:Array Operand} {t:TypeId} {gf:FuncId} {v0:AV} {us vs:List AV} {r:AV} {s':List (List AV)} {W0:World} (h:Sim B T0 μ0 w0 N μ lx a w st) (hW:Below B W0 w0)
  (hf:aeval st f=some (.ifc t v0)) (hp0:pers v0=true) (hq0:quiet v0=true) (hm:meth P t gf name) (hu:aevals st xs.toList=some us) (hv:args us=some vs) (hE:Enters P gf) (hC:ACalls P B W0 gf (v0::vs) st.s r s') :
  Goal P B T0 μ0 w0 N lx a w ⟨d,.call {callee:=.invoke f name,args:=xs,argTypes:=ts},T,pos,af,g⟩ {st with s:=s'} r:=by
 intro K Q k
 obtain⟨a1,a2⟩:=qax h hu hv
 have hr:=(qj h hf).1
 generalize hx:a.eval f=fv at hr
 cases hr with
 | ifc t u0 v0 h0 =>
  have hsz:(#[u0]++xs.map a.eval).size=(v0::vs).length:=by
   simp only[Array.size_append,Array.size_map,List.length_cons]
   have:xs.toList.length=xs.size:=by simp
   simp;omega
  have hval:∀(j:Nat) (c:AV),(v0::vs)[j]? = some c→Rep B μ w ((#[u0]++xs.map a.eval).getD j undef) c∧pers c=true∧quiet c=true:=by
   intro j c hc
   cases j with
   | zero=>simp only[List.getElem?_cons_zero,Option.some.injEq] at hc;subst hc;exact⟨by
     have e:(#[u0]++xs.map a.eval).getD 0 undef=u0:=by
      rw[Array.getD_eq_getD_getElem?,Array.getElem?_append_left (by simp)];rfl
     rw[e];exact h0,hp0,hq0⟩
   | succ j =>
    simp only[List.getElem?_cons_succ] at hc
    have:=a2 _ c hc
    have e:(#[u0]++xs.map a.eval).getD (j+1) undef=((xs.toList.map a.eval).toArray).getD j undef:=by
     simp only[Array.getD_eq_getD_getElem?]
     rw[Array.getElem?_append_right (by simp)]
     simp
    rw[e]
    exact⟨this.1,this.2.2.2⟩
  have hent:=h.entry hsz hval
  have hcall:=hC (fun k=>held a lx μ w st k∨noX k) μ w (#[u0]++xs.map a.eval) hsz (hW.trans h.ext.below) hent
  unfold Oper.wp
  have hex:(execOp a.eval ⟨d,.call {callee:=.invoke f name,args:=xs,argTypes:=ts},T,pos,af,g⟩).run P w=.ok (.enter gf (#[u0]++xs.map a.eval)) w:=by
   have e1:(#[Value.iface t u0]++xs.map a.eval).extract 1 (#[Value.iface t u0]++xs.map a.eval).size=xs.map a.eval:=by
    apply Array.ext'
    simp only[Array.toList_extract,Array.toList_append,Array.toList_map,List.extract_eq_take_drop,Array.size_append,Array.size_map,List.cons_append,List.nil_append,List.drop_succ_cons,List.drop_zero]
    rw[List.take_of_length_le]
    simp
   have e0:(#[Value.iface t u0]++xs.map a.eval)[0]? = some (Value.iface t u0):=by rw[Array.getElem?_append_left (by simp)];rfl
   simp only[execOp,resolve,hx,Sem.run_bind,Sem.run_pure,Result.andThen_ok,invoke,e0,callMethod,run_program,hm u0 w,e1,qau hE]
  rw[hex]
  show Calls P gf (#[u0]++xs.map a.eval) w _
  refine hcall.mono fun e w' hw'=>?_
  obtain⟨v,μ',rfl,hs⟩:=hw'
  obtain⟨s1,s2⟩:=h.call (fun _ hk=>hk.elim) hs
  exact k μ' v w' s1 s2
end
end Go.AI
end
section
namespace Go.AI
open Go.RowKit Go.MapKept
set_option linter.unusedVariables false
section
variable {P:Program} {B:Nat} {T0:Nat→Prop} {μ0:Gh} {w0:World} {N:Nat} {μ:Gh} {lx:Nat→Option Nat} {a:Act} {w:World} {st:St}
theorem qtd (a b:ByteArray):(a==b)=(a.data==b.data):=by cases a;cases b;rfl
theorem findNow_mp {k:ByteArray}:∀(ks:List (List UInt8)) (vs:List AV) (l:List MapEntry) (f:Nat→Value) (i:Nat),l.length=ks.length→vs.length=ks.length →
  (∀j q,ks[j]? = some q→∃b,l[j]? = some (MapEntry.mk (.string ⟨q.toArray⟩) (f j) b)) →
  (mpGet ks vs k.data.toList=none∧Instr.findNow .string (.string k) l i=some none)∨∃j v,vs[j]? = some v∧mpGet ks vs k.data.toList=some v∧Instr.findNow .string (.string k) l i=some (some (i+j,f j))
 | [],vs,l,f,i,hl,hv,h=>by
  cases l with
  | nil=>exact .inl ⟨by simp[mpGet],rfl⟩
  | cons e r=>simp at hl
 | q::ks,[],l,f,i,hl,hv,h=>by simp at hv
 | q::ks,v::vs,[],f,i,hl,hv,h=>by simp at hl
 | q::ks,v::vs,e::l,f,i,hl,hv,h=>by
  obtain⟨b,hb⟩:=h 0 q rfl
  simp only[List.getElem?_cons_zero,Option.some.injEq] at hb
  subst hb
  by_cases hq:k.data.toList=q
  ·have hk:k=⟨q.toArray⟩:=by
    obtain⟨d⟩:=k
    obtain⟨d⟩:=d
    simp at hq;subst hq;rfl
   refine .inr ⟨0,v,rfl,?_,?_⟩
   ·simp[mpGet,hq]
   ·have hb:((⟨q.toArray⟩:ByteArray)==⟨q.toArray⟩)=true:=by rw[qtd];simp
    simp[Instr.findNow,Instr.sameNow,hk,hb]
  ·have hk:(k==⟨q.toArray⟩)=false:=by
    rw[qtd]
    simp only[beq_eq_false_iff_ne,ne_eq]
    intro e;apply hq;rw[e]
   have ih:=findNow_mp (k:=k) ks vs l (fun j=>f (j+1)) (i+1) (by simpa using hl) (by simpa using hv) (fun j q' hj=>by
    obtain⟨b',hb'⟩:=h (j+1) q' (by simpa using hj)
    exact⟨b',by simpa using hb'⟩)
   have hg:mpGet (q::ks) (v::vs) k.data.toList=mpGet ks vs k.data.toList:=by simp[mpGet,hq]
   have hf:Instr.findNow .string (.string k) (MapEntry.mk (.string ⟨q.toArray⟩) (f 0) b::l) i=Instr.findNow .string (.string k) l (i+1):=by simp[Instr.findNow,Instr.sameNow,hk]
   rw[hg,hf]
   rcases ih with ⟨h1,h2⟩|⟨j,v',h1,h2,h3⟩
   ·exact .inl ⟨h1,h2⟩
   ·exact .inr ⟨j+1,v',by simpa using h1,h2,by rw[h3,show i+1+j=i+(j+1) by omega]⟩
theorem qnl {d T pos af g t x i} {u ix r:AV} (h:Sim B T0 μ0 w0 N μ lx a w st) (hu:aeval st x=some u) (hi:aeval st i=some ix) (e:lookA P t u ix=some r) :
  Goal P B T0 μ0 w0 N lx a w ⟨d,.lookup t x i false,T,pos,af,g⟩ st (dem r):=by
 intro K Q k
 unfold lookA at e
 split at e
 ·rename_i ks vs q
  split at e
  ·rename_i kt et ht
   obtain⟨hkt,e⟩:=qo e
   obtain⟨z,hz,e⟩:=qa e
   split at e
   ·rename_i hz1
    injection e with e;subst e
    have hr:=(qj h hu).1
    have hri:=(qj h hi).1
    generalize hx:a.eval x=xv at hr
    generalize hxi:a.eval i=iv at hri
    cases hr with
    | mp rr clock es _ _ f hh hl hv hk hp hrr =>
     cases hri with
     | str s =>
      obtain⟨zv,hzr,hzo⟩:=zero_run hz w
      have hck:(Instr.checkKey es.isEmpty 10000 kt (.string s)).run P w=.ok () w:=run_checkKey hkt (by simp[IsKey]) _ 9999
      rcases findNow_mp (k:=s) ks vs es.toList f 0 (by simpa using hl) hv (fun j q hj=>by
       obtain⟨b,hb⟩:=hk j q hj
       exact⟨b,by simpa using hb⟩) with ⟨h1,h2⟩|⟨j,v',h1,h2,h3⟩
      ·have hfk:=run_findKey (w:=w) hkt h2
       refine qx (Instr.lookup t (a.eval x) (a.eval i) false) rfl (v:=zv) (w':=w) ?_ (k μ _ w h ?_)
       ·rw[hx,hxi]
        simp only[Instr.lookup,Sem.run_bind,run_underlying ht,Result.andThen_ok,MapKept.run_getObj_map hh,hck,hfk,hzr,Sem.run_pure]
        rfl
       ·rw[h1]
        have hq:=qdo (B:=B) (μ:=μ) (w:=w) hzo
        exact qe6 hq.1
      ·have hfk:=run_findKey (w:=w) hkt h3
       refine qx (Instr.lookup t (a.eval x) (a.eval i) false) rfl (v:=f j) (w':=w) ?_ (k μ _ w h ?_)
       ·rw[hx,hxi]
        simp only[Instr.lookup,Sem.run_bind,run_underlying ht,Result.andThen_ok,MapKept.run_getObj_map hh,hck,hfk,Sem.run_pure]
        rfl
       ·rw[h2]
        exact qe6 (hrr j v' h1)
   ·cases e
  ·cases e
 ·cases e
end
end Go.AI
end
section
namespace Go.AI
open Go.RowKit
set_option linter.unusedVariables false
section
variable {P:Program} {B:Nat} {T0:Nat→Prop} {μ0:Gh} {w0:World} {N:Nat} {μ:Gh} {lx:Nat→Option Nat} {a:Act} {w:World} {st:St} {hh:Hint} {C:Oracle} {W0:World}
def OracleOk (P:Program) (B:Nat) (W0:World) (C:Oracle):Prop :=
 ∀f as s r s',C f as s=some (r,s')→Enters P (AI.base f)∧ACalls P B W0 (AI.base f) as s r s'
theorem qcu {h:Hint} {d:Option Tmp} {g:FuncId} (hg:g<100000):AI.base (vary h d g)=g:=by
 have h0:∀k:Nat,(g+100000*k)%100000=g:=fun k=>by rw[Nat.add_mul_mod_self_left];exact Nat.mod_eq_of_lt hg
 have h1:g%100000=g:=Nat.mod_eq_of_lt hg
 unfold vary AI.base
 split
 ·split
  ·exact h0 _
  ·exact h1
 ·exact h1
theorem qk5 {o:Oper} {st':St} {av:AV} (h:Goal P B T0 μ0 w0 N lx a w o st' av) (hd:∀n,o.dst=some n→n<N):GoalS P B T0 μ0 w0 N a w o (st'.put o.dst av):=by
 intro K Q k
 refine h K Q fun μ' v w' h1 h2=>k μ' lx _ w' (qig h1 h2 hd)
theorem qnm {o:Oper} {st':St} {av:AV} (h:Sim B T0 μ0 w0 N μ lx a w st) (hW:Below B W0 w0) (hC:OracleOk P B W0 C) (e:opVal P hh C o st=some (av,st')):Goal P B T0 μ0 w0 N lx a w o st' av:=by
 obtain⟨d,op,T,pos,af,g⟩:=o
 cases op with
 | assign x=>exact qnb h e
 | move x=>exact qt8 h e
 | pick c x y =>
  simp only[opVal] at e
  obtain⟨v0,e0,e⟩:=qa e
  simp only[Option.some.injEq,Prod.mk.injEq] at e
  obtain⟨rfl,rfl⟩:=e
  simp only[opPure] at e0
  obtain⟨t,ht,e0⟩:=qa e0
  cases t with
  | bool t =>
   obtain⟨v,hv,e0⟩:=qa e0
   injection e0 with e0
   exact qt9 h ht hv e0 rfl
  | _=>cases e0
 | build t ps =>
  simp only[opVal] at e
  obtain⟨v0,e0,e⟩:=qa e
  simp only[Option.some.injEq,Prod.mk.injEq] at e
  obtain⟨rfl,rfl⟩:=e
  simp only[opPure] at e0
  obtain⟨z,hz,e0⟩:=qa e0
  obtain⟨l,hl,e0⟩:=qa e0
  split at e0
  ·rename_i fs ht
   obtain⟨pl,hpl,e0⟩:=qa e0
   obtain⟨cs,hcs,e0⟩:=qa e0
   injection e0 with e0;subst e0
   exact qfc h hz hl ht hpl hcs
  ·rename_i n el ht
   obtain⟨sz,hs,e0⟩:=qa e0
   obtain⟨cs,hcs,e0⟩:=qa e0
   injection e0 with e0;subst e0
   exact qf4 h hz hl ht hs hcs
  ·cases e0
 | buildSlice t n ps =>
  simp only[opVal] at e
  obtain⟨v0,e0,e⟩:=qa e
  simp only[Option.some.injEq,Prod.mk.injEq] at e
  obtain⟨rfl,rfl⟩:=e
  simp only[opPure] at e0
  obtain⟨el,hel,e0⟩:=qa e0
  obtain⟨sz,hs,e0⟩:=qa e0
  obtain⟨z,hz,e0⟩:=qa e0
  obtain⟨l,hl,e0⟩:=qa e0
  split at e0
  ·cases e0
  ·rename_i hok
   obtain⟨els,hels,e0⟩:=qa e0
   injection e0 with e0;subst e0
   exact qhc h hel hs hz hl hok hels
 | load t x =>
  simp only[opVal] at e
  obtain⟨v0,e0,e⟩:=qa e
  simp only[Option.some.injEq,Prod.mk.injEq] at e
  obtain⟨rfl,rfl⟩:=e
  simp only[opPure] at e0
  obtain⟨p,hp,e0⟩:=qa e0
  obtain⟨bx,hb,e0⟩:=qa e0
  obtain⟨r,hr,e0⟩:=qa e0
  cases hst:steals hh d with
  | true=>rw[hst] at e0;simp at e0
  | false =>
   rw[hst] at e0
   simp only[Bool.false_eq_true,if_false,Option.some.injEq] at e0
   subst e0
   exact qua h hp hb hr
 | nilCheck x =>
  simp only[opVal] at e
  obtain⟨v0,e0,e⟩:=qa e
  simp only[Option.some.injEq,Prod.mk.injEq] at e
  obtain⟨rfl,rfl⟩:=e
  simp only[opPure] at e0
  obtain⟨v,hv,e0⟩:=qa e0
  split at e0
  ·injection e0 with e0;subst e0;exact qcd h hv (.inl ⟨_,_,rfl⟩)
  ·injection e0 with e0;subst e0;exact qcd h hv (.inr (.inl ⟨_,_,rfl⟩))
  ·injection e0 with e0;subst e0;exact qcd h hv (.inr (.inr (.inl ⟨_,_,_,rfl⟩)))
  ·injection e0 with e0;subst e0;exact qcd h hv (.inr (.inr (.inr ⟨_,_,rfl⟩)))
  ·cases e0
 | binOp op t x y t' =>
  simp only[opVal] at e
  obtain⟨v0,e0,e⟩:=qa e
  simp only[Option.some.injEq,Prod.mk.injEq] at e
  obtain⟨rfl,rfl⟩:=e
  simp only[opPure] at e0
  obtain⟨u,hu,e0⟩:=qa e0
  obtain⟨v,hv,e0⟩:=qa e0
  exact qxf h hu hv e0
 | unOp op t x =>
  simp only[opVal] at e
  obtain⟨v0,e0,e⟩:=qa e
  simp only[Option.some.injEq,Prod.mk.injEq] at e
  obtain⟨rfl,rfl⟩:=e
  simp only[opPure] at e0
  obtain⟨u,hu,e0⟩:=qa e0
  exact op_un h hu e0
 | convert src dst x =>
  simp only[opVal] at e
  obtain⟨v0,e0,e⟩:=qa e
  simp only[Option.some.injEq,Prod.mk.injEq] at e
  obtain⟨rfl,rfl⟩:=e
  simp only[opPure] at e0
  obtain⟨u,hu,e0⟩:=qa e0
  exact qni h hu e0
 | makeInterface t x =>
  simp only[opVal] at e
  obtain⟨v0,e0,e⟩:=qa e
  simp only[Option.some.injEq,Prod.mk.injEq] at e
  obtain⟨rfl,rfl⟩:=e
  simp only[opPure] at e0
  obtain⟨u,hu,e0⟩:=qa e0
  obtain⟨v,hv,e0⟩:=qa e0
  split at e0
  ·cases e0
  ·rename_i ds hds hn
   injection e0 with e0;subst e0
   exact qen h hu hv ⟨ds,hn,fun ms hms=>hds ms hms⟩
  ·cases e0
 | makeFunc fn first cap =>
  simp only[opVal] at e
  obtain⟨v0,e0,e⟩:=qa e
  simp only[Option.some.injEq,Prod.mk.injEq] at e
  obtain⟨rfl,rfl⟩:=e
  cases fn with
  | func f =>
   simp only[opPure] at e0
   split at e0
   ·rename_i h0
    obtain⟨us,hu,e0⟩:=qa e0
    obtain⟨vs,hv,e0⟩:=qa e0
    injection e0 with e0;subst e0
    exact qjq h h0 hu hv
   ·split at e0
    ·rename_i h0
     obtain⟨us,hu,e0⟩:=qa e0
     obtain⟨vs,hv,e0⟩:=qa e0
     injection e0 with e0;subst e0
     exact qf3 h h0 hu hv
    ·cases e0
  | _=>simp only[opPure] at e0 ;cases e0
 | makeSlice t l c =>
  simp only[opVal] at e
  obtain⟨v0,e0,e⟩:=qa e
  simp only[Option.some.injEq,Prod.mk.injEq] at e
  obtain⟨rfl,rfl⟩:=e
  simp only[opPure] at e0
  obtain⟨el,hel,e0⟩:=qa e0
  obtain⟨sz,hs,e0⟩:=qa e0
  obtain⟨by_,hb,e0⟩:=qa e0
  obtain⟨z,hz,e0⟩:=qa e0
  obtain⟨lv,hl,e0⟩:=qa e0
  obtain⟨ln,hln,e0⟩:=qa e0
  obtain⟨cv,hc,e0⟩:=qa e0
  obtain⟨cn,hcn,e0⟩:=qa e0
  split at e0
  ·cases e0
  ·rename_i hok
   obtain⟨⟨h1,h2⟩,e0⟩:=qo e0
   injection e0 with e0;subst e0
   exact qik h hel hs hb hz hl hln hc hcn (by omega) h1 h2 (by omega)
 | slice t x lo hi mx =>
  simp only[opVal] at e
  obtain⟨v0,e0,e⟩:=qa e
  simp only[Option.some.injEq,Prod.mk.injEq] at e
  obtain⟨rfl,rfl⟩:=e
  simp only[opPure] at e0
  obtain⟨u,hu,e0⟩:=qa e0
  obtain⟨l',hl,e0⟩:=qa e0
  obtain⟨h',hh,e0⟩:=qa e0
  obtain⟨m',hm,e0⟩:=qa e0
  exact qq1 h hu hl hh hm e0
 | fieldAddr t x f =>
  simp only[opVal] at e
  obtain⟨v0,e0,e⟩:=qa e
  simp only[Option.some.injEq,Prod.mk.injEq] at e
  obtain⟨rfl,rfl⟩:=e
  simp only[opPure] at e0
  obtain⟨u,hu,e0⟩:=qa e0
  exact qij h hu e0
 | field t x f =>
  simp only[opVal] at e
  obtain⟨v0,e0,e⟩:=qa e
  simp only[Option.some.injEq,Prod.mk.injEq] at e
  obtain⟨rfl,rfl⟩:=e
  simp only[opPure] at e0
  obtain⟨u,hu,e0⟩:=qa e0
  split at e0
  ·obtain⟨p,hp,e0⟩:=qa e0
   obtain⟨r,hr,e0⟩:=qa e0
   injection e0 with e0;subst e0
   exact qq0 h hu hp hr
  ·cases e0
 | indexAddr t x i =>
  simp only[opVal] at e
  obtain⟨v0,e0,e⟩:=qa e
  simp only[Option.some.injEq,Prod.mk.injEq] at e
  obtain⟨rfl,rfl⟩:=e
  simp only[opPure] at e0
  obtain⟨u,hu,e0⟩:=qa e0
  obtain⟨v,hv,e0⟩:=qa e0
  exact qii h hu hv e0
 | index t x i =>
  simp only[opVal] at e
  obtain⟨v0,e0,e⟩:=qa e
  simp only[Option.some.injEq,Prod.mk.injEq] at e
  obtain⟨rfl,rfl⟩:=e
  simp only[opPure] at e0
  obtain⟨u,hu,e0⟩:=qa e0
  obtain⟨v,hv,e0⟩:=qa e0
  obtain⟨r,hr,e0⟩:=qa e0
  injection e0 with e0;subst e0
  obtain⟨_,_,hg⟩:=qqz (d:=d) (T:=T) (pos:=pos) (af:=af) (g:=g) h hu hv hr
  exact hg
 | lookup t x i ok =>
  simp only[opVal] at e
  obtain⟨v0,e0,e⟩:=qa e
  simp only[Option.some.injEq,Prod.mk.injEq] at e
  obtain⟨rfl,rfl⟩:=e
  cases ok with
  | true=>cases e0
  | false =>
   simp only[opPure] at e0
   obtain⟨u,hu,e0⟩:=qa e0
   obtain⟨v,hv,e0⟩:=qa e0
   obtain⟨r,hr,e0⟩:=qa e0
   injection e0 with e0;subst e0
   exact qnl h hu hv hr
 | extract x i =>
  simp only[opVal] at e
  obtain⟨p,hp,e⟩:=qa e
  obtain⟨u,s⟩:=p
  simp only at e
  split at e
  ·obtain⟨v,hv,e⟩:=qa e
   split at e
   ·rename_i hpv
    simp only[Option.some.injEq,Prod.mk.injEq] at e
    obtain⟨rfl,rfl⟩:=e
    obtain⟨k1,k2⟩:=qgs h hp
    exact qlx k1 k2 hv hpv
   ·cases e
  ·cases e
 | call c =>
  obtain⟨callee,xs,ts⟩:=c
  simp only[opVal,callA] at e
  cases callee with
  | value f =>
   simp only at e
   obtain⟨gv,hg,e⟩:=qa e
   split at e
   ·split at e
    ·rename_i hlt
     obtain⟨us,hu,e⟩:=qa e
     obtain⟨vs,hv,e⟩:=qa e
     obtain⟨⟨q,s1⟩,hq,e⟩:=qa e
     obtain⟨⟨r,s'⟩,hr,e⟩:=qa e
     simp only[Option.some.injEq,Prod.mk.injEq] at e
     obtain⟨rfl,rfl⟩:=e
     obtain⟨c1,c2⟩:=hC _ _ _ _ _ hr
     rw[qcu hlt] at c1 c2
     exact ql6 h hW hg hu hv hq c1 c2
    ·cases e
   ·split at e
    ·rename_i hlt
     obtain⟨us,hu,e⟩:=qa e
     obtain⟨vs,hv,e⟩:=qa e
     obtain⟨⟨r,s'⟩,hr,e⟩:=qa e
     simp only[Option.some.injEq,Prod.mk.injEq] at e
     obtain⟨rfl,rfl⟩:=e
     obtain⟨c1,c2⟩:=hC _ _ _ _ _ hr
     rw[qcu hlt] at c1 c2
     exact ql7 h hW hg hu hv c1 c2
    ·cases e
   ·cases e
  | invoke rv m =>
   simp only at e
   obtain⟨gv,hg,e⟩:=qa e
   split at e
   ·obtain⟨gf,hi,e⟩:=qa e
    split at e
    ·rename_i hlt
     obtain⟨hm,e⟩:=qo e
     obtain⟨us,hu,e⟩:=qa e
     obtain⟨vs,hv,e⟩:=qa e
     obtain⟨⟨r,s'⟩,hr,e⟩:=qa e
     simp only[Option.some.injEq,Prod.mk.injEq] at e
     obtain⟨rfl,rfl⟩:=e
     obtain⟨c1,c2⟩:=hC _ _ _ _ _ hr
     rw[qcu hlt.1] at c1 c2
     exact qnk h hW hg hlt.2.1 hlt.2.2 hm hu hv c1 c2
    ·cases e
   ·cases e
  | builtin b =>
   cases b with
   | len =>
    simp only at e
    obtain⟨v0,e0,e⟩:=qa e
    simp only[Option.some.injEq,Prod.mk.injEq] at e
    obtain⟨rfl,rfl⟩:=e
    simp only[builtP] at e0
    split at e0
    ·rename_i x t hx ht
     obtain rfl:xs=#[x]:=by apply Array.ext';simpa using hx
     obtain rfl:ts=#[t]:=by apply Array.ext';simpa using ht
     obtain⟨v,hv,e0⟩:=qa e0
     split at e0
     ·split at e0
      ·rename_i hel
       injection e0 with e0;subst e0
       exact qng h hv hel
      ·cases e0
     ·split at e0
      ·rename_i hel
       injection e0 with e0;subst e0
       exact qnh h hv hel
      ·cases e0
     ·obtain⟨hs,e0⟩:=qo e0
      injection e0 with e0;subst e0
      exact ql1 h hv hs
     ·cases e0
    ·cases e0
   | min =>
    simp only at e
    obtain⟨v0,e0,e⟩:=qa e
    simp only[Option.some.injEq,Prod.mk.injEq] at e
    obtain⟨rfl,rfl⟩:=e
    simp only[builtP] at e0
    split at e0
    ·rename_i x y hx
     obtain rfl:xs=#[x,y]:=by apply Array.ext';simpa using hx
     obtain⟨v,hv,e0⟩:=qa e0
     obtain⟨u,hu,e0⟩:=qa e0
     split at e0
     ·injection e0 with e0;subst e0
      exact qxh h hv hu
     ·cases e0
    ·cases e0
   | max =>
    simp only at e
    obtain⟨v0,e0,e⟩:=qa e
    simp only[Option.some.injEq,Prod.mk.injEq] at e
    obtain⟨rfl,rfl⟩:=e
    simp only[builtP] at e0
    split at e0
    ·rename_i x y hx
     obtain rfl:xs=#[x,y]:=by apply Array.ext';simpa using hx
     obtain⟨v,hv,e0⟩:=qa e0
     obtain⟨u,hu,e0⟩:=qa e0
     split at e0
     ·injection e0 with e0;subst e0
      exact qxi h hv hu
     ·cases e0
    ·rename_i x y z q hx
     obtain rfl:xs=#[x,y,z,q]:=by apply Array.ext';simpa using hx
     obtain⟨v,hv,e0⟩:=qa e0
     obtain⟨u,hu,e0⟩:=qa e0
     obtain⟨t,ht,e0⟩:=qa e0
     obtain⟨r,hr,e0⟩:=qa e0
     exact qub h hv hu ht hr e0
    ·cases e0
   | append =>
    simp only at e
    split at e
    ·rename_i x y t t' hx ht
     obtain rfl:xs=#[x,y]:=by apply Array.ext';simpa using hx
     obtain rfl:ts=#[t,t']:=by apply Array.ext';simpa using ht
     unfold appendA at e
     obtain⟨el,hel,e⟩:=qa e
     obtain⟨sz,hs,e⟩:=qa e
     obtain⟨by_,hb,e⟩:=qa e
     obtain⟨z,hz,e⟩:=qa e
     split at e
     ·cases e
     ·rename_i hok
      obtain⟨⟨u,s⟩,hu,e⟩:=qa e
      obtain⟨b,hbv,e⟩:=qa e
      obtain⟨ys,hys,e⟩:=qa e
      simp only at e
      split at e
      ·rename_i zs
       obtain⟨⟨h1,h2⟩,e⟩:=qo e
       simp only[Option.some.injEq,Prod.mk.injEq] at e
       obtain⟨rfl,rfl⟩:=e
       obtain⟨k1,k2,_⟩:=take_sound h hu
       obtain⟨_,rfl⟩:=Rep.nil_val k2.full.1
       exact qio h hel hs hb hz hok hu hbv hys (.inl rfl) h1 (by simpa using h2)
      ·rename_i n zs
       split at e
       ·rename_i hn
        obtain⟨rfl,rfl⟩:=hn
        obtain⟨⟨h1,h2⟩,e⟩:=qo e
        simp only[Option.some.injEq,Prod.mk.injEq] at e
        obtain⟨rfl,rfl⟩:=e
        exact qio h hel hs hb hz hok hu hbv hys (.inr rfl) h1 h2
       ·cases e
      ·cases e
    ·cases e
   | _=>simp only[builtP] at e;cases e
 | _=>cases e
theorem qbn {o:Oper} {st':St} (h:Sim B T0 μ0 w0 N μ lx a w st) (hW:Below B W0 w0) (hC:OracleOk P B W0 C) (hd:∀n,o.dst=some n→n<N) (e:stepOp P hh C o st=some st') :
  GoalS P B T0 μ0 w0 N a w o st':=by
 have val:(bnd (if isMs hh o.dst then msOp P hh o st else opVal P hh C o st) fun p=>some (p.2.put o.dst p.1))=some st'→GoalS P B T0 μ0 w0 N a w o st':=by
  intro e
  obtain⟨⟨v,s⟩,hv,e⟩:=qa e
  injection e with e;subst e
  split at hv
  ·exact qk5 (ql5 h hv) hd
  ·exact qk5 (qnm h hW hC hv) hd
 obtain⟨d,op,T,pos,af,g⟩:=o
 have newb:∀{ty:TypeId} {cs:List AV} {s:St},newBox hh d ty cs s=some st'→∃n,d=some n∧n<N∧(st'={s with t:=ins (dropLp n s.t) n (.lp n 0),l:=ins s.l n cs}∨st'={s with t:=ins s.t n (.gp s.s.length 0 (some (ty,cs.length))),s:=s.s++[cs]}):=by
  intro ty cs s e2
  cases d with
  | none=>cases e2
  | some n =>
   simp only[newBox] at e2
   split at e2
   ·injection e2 with e2;exact⟨n,rfl,hd n rfl,.inr e2.symm⟩
   ·injection e2 with e2;exact⟨n,rfl,hd n rfl,.inl e2.symm⟩
 cases op with
 | alloc t =>
  simp only[stepOp] at e
  obtain⟨z,hz,e⟩:=qa e
  obtain⟨n,rfl,hn,rfl|rfl⟩:=newb e
  ·exact qq3 h hz rfl hn
  ·exact qlz h hz rfl hn
 | box t x =>
  simp only[stepOp] at e
  obtain⟨⟨u,s⟩,hu,e⟩:=qa e
  simp only at e
  split at e
  ·rename_i hp
   obtain⟨v,hv,e⟩:=qa e
   obtain⟨n,rfl,hn,rfl|rfl⟩:=newb e
   ·exact qxg h hu hp hv rfl hn
   ·exact qq5 h hu hp hv rfl hn
  ·cases e
 | store t y x =>
  cases d with
  | some _=>simp only[stepOp] at e;cases e
  | none =>
  simp only[stepOp] at e
  unfold storeA at e
  obtain⟨p,hp,e⟩:=qa e
  obtain⟨⟨u,s⟩,hu,e⟩:=qa e
  split at e
  ·rename_i hpu
   obtain⟨sz,hs,e⟩:=qa e
   obtain⟨v,hv,e⟩:=qa e
   obtain⟨⟨cs,off⟩,hb,e⟩:=qa e
   simp only at e
   split at e
   ·rename_i hc
    cases p with
    | lp dd i =>
     simp only[setBox] at e
     injection e with e;subst e
     simp only[boxOf] at hb
     obtain⟨cs0,hb0,hb⟩:=qa hb
     simp only[Option.some.injEq,Prod.mk.injEq] at hb
     obtain⟨rfl,rfl⟩:=hb
     exact qq4 h hp hu hpu hs hv hb0 hc.1 hc.2.2 rfl
    | gp dd i sh =>
     simp only[setBox] at e
     injection e with e;subst e
     simp only[boxOf] at hb
     obtain⟨cs0,hb0,hb⟩:=qa hb
     simp only[Option.some.injEq,Prod.mk.injEq] at hb
     obtain⟨rfl,rfl⟩:=hb
     exact ql0 h hp hu hpu hs hv hb0 hc.1 hc.2.2 hc.2.1 rfl
    | _=>cases e
   ·cases e
  ·cases e
 | _=>exact val e
end
end Go.AI
end
section
namespace Go.AI
open Go.RowKit
set_option linter.unusedVariables false
theorem qq6 {α:Type} {l:List (Nat×α)} {ks:List Nat} {i:Nat} {v:α} (h:look (keep ks l) i=some v):mem ks i=true:=by
 induction l with
 | nil=>cases h
 | cons p r ih =>
  obtain⟨j,u⟩:=p
  simp only[keep] at h
  split at h
  ·rename_i hm
   simp only[look] at h
   split at h
   ·rename_i hj;subst hj;exact hm
   ·exact ih h
  ·exact ih h
theorem qff {α:Type} {l:List (Nat×α)} {ks:List Nat} {i:Nat} {v:α} (h:look (keep ks l) i=some v):look l i=some v:=by
 induction l with
 | nil=>exact h
 | cons p r ih =>
  obtain⟨j,u⟩:=p
  simp only[keep] at h
  simp only[look]
  split at h
  ·simp only[look] at h
   split
   ·rename_i hj;rw[if_pos hj] at h;exact h
   ·rename_i hj;rw[if_neg hj] at h;exact ih h
  ·rename_i hm
   split
   ·rename_i hj;subst hj;exact absurd (qq6 h) hm
   ·exact ih h
theorem qk6 {α:Type} (l:List (Nat×α)) (ks:List Nat):((keep ks l).map (·.1)).Sublist (l.map (·.1)):=by
 induction l with
 | nil=>exact List.Sublist.refl _
 | cons p r ih =>
  simp only[keep]
  split
  ·exact ih.cons_cons _
  ·exact ih.cons _
theorem qq7 {α:Type} (l:List (Nat×α)) (ks:List Nat):((drop ks l).map (·.1)).Sublist (l.map (·.1)):=by
 induction l with
 | nil=>exact List.Sublist.refl _
 | cons p r ih =>
  simp only[drop]
  split
  ·exact ih.cons _
  ·exact ih.cons_cons _
section
variable {P:Program} {B:Nat} {T0:Nat→Prop} {μ0:Gh} {w0:World} {N:Nat} {μ:Gh} {lx:Nat→Option Nat} {a:Act} {w:World} {st:St} {hh:Hint} {C:Oracle} {W0:World}
theorem Sim.sub {t':List (Nat×AV)} {l':List (Nat×List AV)} (h:Sim B T0 μ0 w0 N μ lx a w st) (h1:∀i v,look t' i=some v→look st.t i=some v)
  (h2:(t'.map (·.1)).Nodup) (h3:∀d cs,look l' d=some cs→look st.l d=some cs):Sim B T0 μ0 w0 N μ lx a w ⟨t',l',st.s⟩ :=
 h.le ⟨fun i v e=>⟨v,h1 i v e,.inl rfl⟩,fun d cs e=>⟨cs,h3 d cs e,CLe.refl _⟩,fun b cs e=>⟨cs,e,CLe.refl _⟩,Nat.le_refl _,fun _=>h2⟩
theorem Sim.clean0 (h:Sim B T0 μ0 w0 N μ lx a w st):Sim B T0 μ0 w0 N μ lx a w (clean0 hh st) :=
 h.sub (fun i v e=>qif e) ((qq7 _ _).nodup h.nd) fun d cs e=>e
theorem Sim.clean1 (h:Sim B T0 μ0 w0 N μ lx a w st):Sim B T0 μ0 w0 N μ lx a w (clean1 hh st) :=
 h.sub (fun i v e=>qff e) ((qk6 _ _).nodup h.nd) fun d cs e=>e
theorem qb7 {d:Option Tmp} (h:Sim B T0 μ0 w0 N μ lx a w st) (hd:∀n,d=some n→n<N):Sim B T0 μ0 w0 N μ lx (a.put d undef) w (st.put d (.tup [])) :=
 qig h (.mk' ⟨.tup #[] [] rfl (fun j c hc=>by simp at hc),fun j c hc=>by simp at hc⟩ fun j=>by cases j<;>simp[ownV,exBlk,comp]) hd
theorem qk7 (l:List Oper) (j:Nat):dstAt l j=(l[j]?).bind (·.dst):=by
 induction l generalizing j with
 | nil=>simp[dstAt]
 | cons o r ih=>cases j<;>simp[dstAt,ih]
theorem qaf {ops:Array Oper} {o:Oper} {b:Bool} (h:Sim B T0 μ0 w0 N μ lx a w st) (e:wantedA ops.toList o.guard st=some b):Region.wanted o (yielded ops a.tmps)=b:=by
 unfold wantedA at e
 unfold Region.wanted
 cases hg:o.guard with
 | none=>rw[hg] at e;injection e
 | some p =>
  obtain⟨j,want⟩:=p
  rw[hg] at e
  simp only at e ⊢
  rw[qk7] at e
  have hq:ops.toList[j]? = ops[j]?:=by simp
  rw[hq] at e
  split at e
  ·rename_i d hd
   obtain⟨v,hv,e⟩:=qa e
   have hf:=h.tmp d v hv
   split at e
   ·rename_i c
    obtain⟨hr,_⟩:=hf
    have hd2:a.tmps[d]? = some (.bool c):=by
     generalize hx:a.tmps.getD d undef=u at hr
     cases hr
     rw[Array.getD_eq_getD_getElem?] at hx
     cases hy:a.tmps[d]? with
     | none=>rw[hy] at hx;cases hx
     | some z=>rw[hy] at hx;simpa using hx
    injection e with e
    have hyl:yielded ops a.tmps j=some c:=by simp[yielded,hd,hd2]
    rw[hyl,← e]
    cases c<;>cases want<;>rfl
   ·rename_i xs
    injection e with e;subst e
    obtain⟨hr,_⟩:=hf
    generalize hx:a.tmps.getD d undef=u at hr
    cases hr with
    | tup us _ _ _ =>
     have hy:yielded ops a.tmps j=none:=by
      simp only[yielded,hd,Option.bind_some]
      rw[Array.getD_eq_getD_getElem?] at hx
      cases hy:a.tmps[d]? with
      | none=>rfl
      | some z=>rw[hy] at hx;simp at hx;subst hx;rfl
     rw[hy];rfl
   ·cases e
  ·rename_i hd
   injection e with e;subst e
   have hy:yielded ops a.tmps j=none:=by simp[yielded,hd]
   rw[hy];rfl
theorem qir {ops:Array Oper} {Q:Exit→Act→World→Prop} (hW:Below B W0 w0) (hC:OracleOk P B W0 C):∀(r:List Oper) {st st':St} {μ:Gh} {lx:Nat→Option Nat} {a:Act} {w:World},
  Sim B T0 μ0 w0 N μ lx a w st→opsOk N r=true→runOps P hh C ops.toList r st=some st' →
  (∀μ' lx' a' w',Sim B T0 μ0 w0 N μ' lx' a' w' st'→Q .normal a' w')→wpList P ops Q r a w:=by
 intro r
 induction r with
 | nil=>intro st st' μ lx a w h _ e k;injection e with e;subst e;exact k _ _ _ _ h
 | cons o r ih =>
  intro st st' μ lx a w h hok e k
  simp only[opsOk,Bool.and_eq_true] at hok
  have hd:∀n,o.dst=some n→n<N:=fun n hn=>by have:=hok.1;rw[hn] at this;simpa using this
  simp only[runOps] at e
  simp only[wpList]
  cases hw:wantedA ops.toList o.guard st with
  | none=>rw[hw] at e;cases e
  | some b =>
   rw[hw] at e
   rw[qaf h hw]
   cases b with
   | true =>
    simp only[sel] at e
    obtain⟨st1,h1,e⟩:=qa e
    refine .inl (qbn h hW hC hd h1 _ _ fun μ' lx' a' w' hs=>ih hs hok.2 e k)
   | false =>
    simp only[sel] at e
    simp only[Bool.false_eq_true,if_false]
    exact ih (qb7 h hd) hok.2 e k
end
end Go.AI
end
section
namespace Go.AI
open Go.RowKit
set_option linter.unusedVariables false
section
variable {P:Program} {Q:Exit→Act→World→Prop} {a:Act} {w:World}
def LW (P:Program) (c:Code) (Q:Exit→Act→World→Prop) (a:Act) (w:World):Prop :=
 ∀(b:Frame) (k:List Item) (cs:List Frame),∃e a' w',Q e a' w'∧Arrives P (lone (b.at a (.code c::.inLoop c::k)) cs w) b k cs e a' w'
theorem LW.round {c:Code} (h:c.wp P (Exit.then (LW P c Q) Q) a w):LW P c Q a w:=by
 intro b k cs
 obtain⟨e,a₁,w₁,hq,harr⟩:=h b (.inLoop c::k) cs
 cases e with
 | normal =>
  obtain⟨e₂,a₂,w₂,hq₂,harr₂⟩:=hq b k cs
  exact⟨e₂,a₂,w₂,hq₂,.of_steps (Steps.trans harr (.one step_inLoop)) harr₂⟩
 | exit id=>exact⟨_,a₁,w₁,hq,.pass (x:=.inLoop c) rfl (fun _ _=>.inl (by simp)) harr⟩
 | goto l=>exact⟨_,a₁,w₁,hq,.pass (x:=.inLoop c) rfl (fun _ _=>.inl (by simp)) harr⟩
 | ret=>exact⟨_,a₁,w₁,hq,.pass (x:=.inLoop c) rfl (fun _ _=>.inl (by simp)) harr⟩
 | panic ch=>exact⟨_,a₁,w₁,hq,.pass (x:=.inLoop c) rfl (fun _ _=>.inl (by simp)) harr⟩
 | outgrown=>exact⟨_,a₁,w₁,hq,.pass (x:=.inLoop c) rfl (fun _ _=>.inl (by simp)) harr⟩
theorem LW.wp {c:Code} (h:LW P c Q a w):(Code.loop c).wp P Q a w:=by
 intro b k cs
 obtain⟨e,a',w',hq,harr⟩:=h b k cs
 exact⟨e,a',w',hq,.of_steps (.one step_loop) harr⟩
end
def Ex.out:Ex→Exit
 | .normal=>.normal
 | .exit id=>.exit id
 | .ret=>.ret
section
variable {P:Program} {B:Nat} {T0:Nat→Prop} {μ0:Gh} {w0:World} {N:Nat} {μ:Gh} {lx:Nat→Option Nat} {a:Act} {w:World} {st:St} {hh:Hint} {C:Oracle} {W0:World}
theorem Sim.head {id:Nat} (h:Sim B T0 μ0 w0 N μ lx a w st):Sim B T0 μ0 w0 N μ lx a w (head hh id st) :=
 h.sub (fun i v e=>qff e) ((qk6 _ _).nodup h.nd) fun d cs e=>qff e
theorem thenE_eq {x:Option (Ex×St)} {k:St→Option (Ex×St)} {r:Ex×St} (h:thenE x k=some r) :
  (∃st,x=some (.normal,st)∧k st=some r)∨(x=some r∧r.1≠.normal):=by
 unfold thenE at h
 split at h
 ·exact .inl ⟨_,rfl,h⟩
 ·refine .inr ⟨h,fun e=>?_⟩
  subst h
  rename_i hn
  obtain⟨e1,s⟩:=r
  subst e
  exact hn s rfl
def PostX (B:Nat) (T0:Nat→Prop) (μ0:Gh) (w0:World) (N:Nat) (r:Ex×St) (Q:Exit→Act→World→Prop):Prop :=
 ∀μ' lx' a' w',Sim B T0 μ0 w0 N μ' lx' a' w' r.2→Q r.1.out a' w'
def DrawOk (P:Program) (B:Nat) (W0:World) (hh:Hint) (C:Oracle):Prop :=
 ∀(T0:Nat→Prop) (μ0:Gh) (w0:World) (N:Nat) (id:Nat) (ops:Array Oper) (st st':St) (μ:Gh) (lx:Nat→Option Nat) (a:Act) (w:World) (Q:Exit→Act→World→Prop),Below B W0 w0→OracleOk P B W0 C →
  Sim B T0 μ0 w0 N μ lx a w st→drawOk hh ops=true→opsOk N ops.toList=true →
  regionA P hh C ops.toList true st=some st'→(∀μ' lx' a' w',Sim B T0 μ0 w0 N μ' lx' a' w' st'→Q .normal a' w')→(Code.region id ops true).wp P Q a w
theorem qar (hW:Below B W0 w0) (hC:OracleOk P B W0 C) (hdraw:DrawOk P B W0 hh C) (m:Nat) (c:Code) (st:St):∀{r:Ex×St} {μ:Gh} {lx:Nat→Option Nat} {a:Act} {w:World} {Q:Exit→Act→World→Prop},
  Sim B T0 μ0 w0 N μ lx a w st→codeOk hh N c=true→exec P hh C m c st=some r→PostX B T0 μ0 w0 N r Q→c.wp P Q a w∧(∀c',c=.loop c'→LW P c' Q a w):=by
 induction m,c,st using exec.induct (h:=hh) with
 | case1 m st=>intro r μ lx a w Q h hok e k;rw[exec] at e;injection e with e;subst e;exact⟨wp_skip (k _ _ _ _ h),fun c' e=>by cases e⟩
 | case2 m st=>intro r μ lx a w Q h hok e k;rw[exec] at e;injection e with e;subst e;exact⟨wp_ret (k _ _ _ _ h),fun c' e=>by cases e⟩
 | case3 m id st=>intro r μ lx a w Q h hok e k;rw[exec] at e;injection e with e;subst e;exact⟨wp_exit (k _ _ _ _ h),fun c' e=>by cases e⟩
 | case4 m id ops draw st =>
  intro r μ lx a w Q h hok e k
  rw[exec] at e
  obtain⟨st1,h1,e⟩:=qa e
  injection e with e;subst e
  simp only[codeOk,Bool.and_eq_true,Bool.or_eq_true,Bool.not_eq_true'] at hok
  have kk:∀μ' lx' a' w',Sim B T0 μ0 w0 N μ' lx' a' w' st1→Q .normal a' w':=fun _ _ _ _ hs=>k _ _ _ _ hs.clean1
  refine⟨?_,fun c' e=>by cases e⟩
  cases draw with
  | false=>exact wp_region_list (qir hW hC _ h.clean0 hok.1 h1 kk)
  | true=>exact hdraw T0 μ0 w0 N id ops _ st1 μ lx a w Q hW hC h.clean0 (hok.2.resolve_left (by simp)) hok.1 h1 kk
 | case5 m x y st ih1 ih2 =>
  intro r μ lx a w Q h hok e k
  rw[exec] at e
  simp only[codeOk,Bool.and_eq_true] at hok
  refine⟨wp_seq ?_,fun c' e=>by cases e⟩
  rcases thenE_eq e with ⟨st1,h1,h2⟩|⟨h1,hn⟩
  ·exact (ih1 h hok.1 h1 fun μ' lx' a' w' hs=>(ih2 st1 hs hok.2 h2 k).1).1
  ·refine (ih1 h hok.1 h1 fun μ' lx' a' w' hs=>?_).1
   have:=k μ' lx' a' w' hs
   obtain⟨x,s⟩:=r
   cases x with
   | normal=>exact absurd rfl hn
   | _=>exact this
 | case6 m c x y st ih1 ih2 =>
  intro r μ lx a w Q h hok e k
  rw[exec] at e
  simp only[codeOk,Bool.and_eq_true] at hok
  refine⟨?_,fun c' e=>by cases e⟩
  unfold condE at e
  have hb:∀t,aeval st c=some (.bool t)→a.eval c=.bool t:=fun t ht=>by
   have:=(qj h ht).1
   generalize a.eval c=u at this
   cases this;rfl
  split at e
  ·rename_i ht;exact wp_cond_true (hb _ ht) (ih1 h hok.1 e k).1
  ·rename_i ht;exact wp_cond_false (hb _ ht) (ih2 h hok.2 e k).1
  ·cases e
 | case7 m id c st ih =>
  intro r μ lx a w Q h hok e k
  rw[exec] at e
  simp only[codeOk] at hok
  refine⟨wp_block ?_,fun c' e=>by cases e⟩
  unfold blkE at e
  split at e
  ·rename_i id' st1 h1
   refine (ih h hok h1 fun μ' lx' a' w' hs=>?_).1
   show (if id'=id then _ else _)
   split at e
   ·rename_i hid;rw[if_pos hid];injection e with e;subst e;exact k _ _ _ _ hs
   ·rename_i hid;rw[if_neg hid];injection e with e;subst e;exact k _ _ _ _ hs
  ·rename_i hn
   refine (ih h hok e fun μ' lx' a' w' hs=>?_).1
   obtain⟨x,s⟩:=r
   have:=k _ _ _ _ hs
   cases x with
   | exit id'=>exact absurd e (hn id' s)
   | _=>exact this
 | case8 c st=>intro r μ lx a w Q h hok e k;rw[exec] at e;cases e
 | case9 m c st ih1 ih2 =>
  intro r μ lx a w Q h hok e k
  rw[exec] at e
  have hok':codeOk hh N c=true:=hok
  have hl:LW P c Q a w:=by
   refine LW.round ?_
   rcases thenE_eq e with ⟨st1,h1,h2⟩|⟨h1,hn⟩
   ·exact (ih1 h.head hok' h1 fun μ' lx' a' w' hs=>(ih2 st1 hs hok h2 k).2 c rfl).1
   ·refine (ih1 h.head hok' h1 fun μ' lx' a' w' hs=>?_).1
    have:=k μ' lx' a' w' hs
    obtain⟨x,s⟩:=r
    cases x with
    | normal=>exact absurd rfl hn
    | _=>exact this
  exact⟨hl.wp,fun c' e=>by injection e with e;subst e;exact hl⟩
 | case10 m c st h1 h2 h3 h4 h5 h6 h7 h8 h9=>intro r μ lx a w Q h hok e k;cases c<;>cases m<;>first|(simp[exec] at e;done)|(simp_all;done)
end
end Go.AI
end
section
namespace Go.AI
open Go.RowKit
set_option linter.unusedVariables false
section
variable {P:Program} {B:Nat} {T0:Nat→Prop} {μ0:Gh} {w0:World} {N:Nat} {μ:Gh} {lx:Nat→Option Nat} {a:Act} {w:World} {st:St} {hh:Hint} {C:Oracle} {W0:World}
theorem Sim.out {v:Value} {r:AV} (h:Sim B T0 μ0 w0 N μ lx a w st) (hr:Res B T0 w0 μ lx a w st v r) (hp:∀d i,r≠.lp d i) (h0:μ0.df=[]:=by first|assumption|exact Sim.mdf (by assumption)) :
  Sim B T0 μ0 w0 1 μ (fun _=>none) ⟨#[v],[]⟩ w ⟨[(0,r)],[],st.s⟩:=by
 have o0:∀i j,own ⟨#[v],[]⟩ (fun _=>none) μ w ⟨[(0,r)],[],st.s⟩ (.t i j)=if i=0 then ownV v r j else none:=by
  intro i j
  by_cases hi:i=0
  ·subst hi;simp[own,look]
  ·simp[own,look,hi,show ¬0=i from fun e=>hi e.symm]
 have og:∀b,own ⟨#[v],[]⟩ (fun _=>none) μ w ⟨[(0,r)],[],st.s⟩ (.g b)=own a lx μ w st (.g b):=fun b=>rfl
 have ogc:∀b j,own ⟨#[v],[]⟩ (fun _=>none) μ w ⟨[(0,r)],[],st.s⟩ (.gc b j)=own a lx μ w st (.gc b j):=fun b j=>rfl
 have ol:∀d,own ⟨#[v],[]⟩ (fun _=>none) μ w ⟨[(0,r)],[],st.s⟩ (.l d)=none:=fun d=>by simp[own,look]
 have olc:∀d j,own ⟨#[v],[]⟩ (fun _=>none) μ w ⟨[(0,r)],[],st.s⟩ (.lc d j)=none:=fun d j=>by simp[own,look,ownB]
 constructor
 ·exact h0.symm
 ·rfl
 ·exact h.ext
 ·intro i u hu
  simp only[look] at hu
  split at hu
  ·rename_i hi;subst hi;injection hu with hu;subst hu
   have:=hr.full
   cases r with
   | lp d i=>exact absurd rfl (hp d i)
   | _=>exact this
  ·cases hu
 ·intro d cs e;simp[look] at e
 ·exact h.glb
 ·exact h.gdom
 ·intro l l' k e e'
  cases l with
  | t i j =>
   rw[o0] at e
   split at e
   ·rename_i hi;subst hi
    cases l' with
    | t i' j' =>
     rw[o0] at e'
     split at e'
     ·rename_i hi;subst hi;rw[hr.inj j j' k e e']
     ·cases e'
    | l d=>rw[ol] at e';cases e'
    | lc d j=>rw[olc] at e';cases e'
    | g b=>rw[og] at e';exact absurd e' ((hr.tok j k e).2.2.2 _)
    | gc b j'=>rw[ogc] at e';exact absurd e' ((hr.tok j k e).2.2.2 _)
   ·cases e
  | l d=>rw[ol] at e;cases e
  | lc d j=>rw[olc] at e;cases e
  | g b =>
   cases l' with
   | t i' j' =>
    rw[o0] at e'
    split at e'
    ·rw[og] at e;exact absurd e ((hr.tok j' k e').2.2.2 _)
    ·cases e'
   | l d=>rw[ol] at e';cases e'
   | lc d j=>rw[olc] at e';cases e'
   | g b'=>rw[og] at e e';exact h.inj _ _ k e e'
   | gc b' j'=>rw[og] at e;rw[ogc] at e';exact h.inj _ _ k e e'
  | gc b j =>
   cases l' with
   | t i' j' =>
    rw[o0] at e'
    split at e'
    ·rw[ogc] at e;exact absurd e ((hr.tok j' k e').2.2.2 _)
    ·cases e'
   | l d=>rw[ol] at e';cases e'
   | lc d j=>rw[olc] at e';cases e'
   | g b'=>rw[ogc] at e;rw[og] at e';exact h.inj _ _ k e e'
   | gc b' j'=>rw[ogc] at e e';exact h.inj _ _ k e e'
 ·intro l k e
  cases l with
  | t i j =>
   rw[o0] at e
   split at e
   ·have:=hr.tok j k e;exact⟨this.1,this.2.1,this.2.2.1⟩
   ·cases e
  | l d=>rw[ol] at e;cases e
  | lc d j=>rw[olc] at e;cases e
  | g b=>rw[og] at e;exact h.rng _ k e
  | gc b j=>rw[ogc] at e;exact h.rng _ k e
 ·exact h.fr0
 ·exact h.hB
 ·simp
 ·exact h.gbx
 ·exact h.mdf
def rstep (tmps:Array Value):ResultVar→Sem Value
 | .tmp t=>pure (tmps.getD t undef)
 | .cell a t=>do loadVar t (← asAddr (tmps.getD a undef))
theorem qhd (h:Sim B T0 μ0 w0 N μ lx a w st) {x:ResultVar} {v:AV} (e:resultA P st x=some v) (hp:pers v=true) :
  ∃u,(rstep a.tmps x).run P w=.ok u w∧Rep B μ w u (dem v):=by
 cases x with
 | tmp t =>
  have hf:=h.tmp t v e
  exact⟨_,rfl,(hf.rep fun d i q=>by subst q;cases hp).dem⟩
 | cell p t =>
  simp only[resultA] at e
  obtain⟨q,hq,e⟩:=qa e
  obtain⟨⟨cs,off⟩,hb,e⟩:=qa e
  obtain⟨r,hr,e⟩:=qa e
  injection e with e;subst e
  obtain⟨b,base,f,hv,hc⟩:=qih h (h.tmp p q hq) hb
  obtain⟨u,hrun,hrep,_⟩:=qgt hc hr
  exact⟨u,by simp only[rstep,hv,asAddr,Sem.run_bind,Sem.run_pure,Result.andThen_ok,hrun],hrep.dem.dem⟩
theorem resultsA_sound (h:Sim B T0 μ0 w0 N μ lx a w st):∀(l:List ResultVar) {rs:List AV},resultsA P st l=some rs →
  ∃us:List Value,(l.mapM (rstep a.tmps)).run P w=.ok us w∧us.length=rs.length∧∀(j:Nat) (c:AV),rs[j]? = some c→Rep B μ w (us.getD j undef) c∧quiet c=true∧pers c=true:=by
 intro l
 induction l with
 | nil=>intro rs e;injection e with e;subst e;exact⟨[],rfl,rfl,fun j c hc=>by simp at hc⟩
 | cons x r ih =>
  intro rs e
  simp only[resultsA] at e
  obtain⟨v,hv,e⟩:=qa e
  split at e
  ·rename_i hp
   obtain⟨l',hl,e⟩:=qa e
   injection e with e;subst e
   obtain⟨u,hu,hu2⟩:=qhd h hv hp
   obtain⟨us,hus,h1,h2⟩:=ih hl
   refine⟨u::us,?_,by simp[h1],fun j c hc=>?_⟩
   ·rw[List.mapM_cons,Sem.run_bind,hu,Result.andThen_ok,Sem.run_bind,hus,Result.andThen_ok];rfl
   ·cases j with
    | zero=>simp at hc;subst hc;exact⟨hu2,qe4 _,by cases v<;>first|rfl|cases hp⟩
    | succ j=>simp at hc;simpa using h2 j c hc
  ·cases e
theorem results_run {fn:Func} {tmps:Array Value} {us:List Value} (h:(fn.results.toList.mapM (rstep tmps)).run P w=.ok us w) :
  (results fn tmps).run P w=.ok (if h:us.toArray.size=1 then us.toArray[0] else .tuple us.toArray) w:=by
 have he:results fn tmps=(do let vs ← fn.results.mapM (rstep tmps);pure (if h:vs.size=1 then vs[0] else .tuple vs)):=by
  unfold results
  congr 2
 rw[he]
 rw[Array.mapM_eq_mapM_toList,Sem.run_bind,map_eq_pure_bind,Sem.run_bind,h]
 rfl
theorem Le.take {st:St} {t:Nat} {v:AV} (hv:look st.t t=some v):Le {st with t:=ins st.t t (dem v)} st :=
 ⟨fun i v' e=>by
   simp only[qu] at e
   split at e
   ·rename_i hi;subst hi;injection e with e;subst e;exact⟨v,hv,.inr rfl⟩
   ·exact⟨v',e,.inl rfl⟩,fun d cs' e=>⟨cs',e,CLe.refl _⟩,fun b cs' e=>⟨cs',e,CLe.refl _⟩,Nat.le_refl _,fun h=>qbc _ _ _ h⟩
theorem resultsT_sound:∀(l:List ResultVar) {st st':St} {rs:List AV},Sim B T0 μ0 w0 N μ lx a w st→resultsT st l=some (rs,st') →
  ∃us:List Value,(l.mapM (rstep a.tmps)).run P w=.ok us w∧us.length=rs.length∧Sim B T0 μ0 w0 N μ lx a w st'∧(∀l k,own a lx μ w st' l=some k→own a lx μ w st l=some k) ∧
   (∀(j:Nat) (c:AV),rs[j]? = some c→Rep B μ w (us.getD j undef) c∧Tk1 B μ w (us.getD j undef) c) ∧
   (∀(j:Nat) (c:AV) k,rs[j]? = some c→exBlk (us.getD j undef) c=some k→(∃l,own a lx μ w st l=some k)∧∀l,own a lx μ w st' l≠some k) ∧
   ∀(j j':Nat) (c c':AV) k,rs[j]? = some c→rs[j']? = some c'→exBlk (us.getD j undef) c=some k→exBlk (us.getD j' undef) c'=some k→j=j':=by
 intro l
 induction l with
 | nil =>
  intro st st' rs h e
  simp only[resultsT,Option.some.injEq,Prod.mk.injEq] at e
  obtain⟨rfl,rfl⟩:=e
  exact⟨[],rfl,rfl,h,fun _ _ h=>h,fun j c hc=>by simp at hc,fun j c k hc=>by simp at hc,fun j j' c c' k hc=>by simp at hc⟩
 | cons x r ih =>
  intro st st' rs h e
  cases x with
  | cell p t=>simp[resultsT] at e
  | tmp t =>
   simp only[resultsT] at e
   obtain⟨v,hv,e⟩:=qa e
   split at e
   ·rename_i hp
    obtain⟨⟨l',st2⟩,hl,e⟩:=qa e
    simp only[Option.some.injEq,Prod.mk.injEq] at e
    obtain⟨rfl,rfl⟩:=e
    obtain⟨k1,k2,k3,k4⟩:=take_sound (x:=.tmp t) (v:=v) (st':={st with t:=ins st.t t (dem v)}) h (by simp[takeOp,bnd,hv])
    obtain⟨us,i1,i2,i3,i4,i5,i6,i7⟩:=ih k1 hl
    have hle:=Le.take hv
    have hev:a.eval (.tmp t)=a.tmps.getD t undef:=rfl
    rw[hev] at k2
    have hfull:Rep B μ w (a.tmps.getD t undef) v∧Tk1 B μ w (a.tmps.getD t undef) v:=by
     have:=k2.full
     cases v with
     | lp d i=>simp[pers] at hp
     | tup xs=>simp[pers] at hp
     | _=>exact this
    have ht0:∀k,exBlk (a.tmps.getD t undef) v=some k→own a lx μ w st (.t t none)=some k:=fun k hk=>by
     simp only[own,hv,Option.bind_some];exact hk
    refine⟨a.tmps.getD t undef::us,?_,by simp[i2],i3,fun l k e=>own_le hle (i4 l k e),fun j c hc=>?_,fun j c k hc hk=>?_,fun j j' c c' k hc hc' hk hk'=>?_⟩
    ·rw[List.mapM_cons,Sem.run_bind]
     have:(rstep a.tmps (.tmp t)).run P w=.ok (a.tmps.getD t undef) w:=rfl
     rw[this,Result.andThen_ok,Sem.run_bind,i1,Result.andThen_ok];rfl
    ·cases j with
     | zero=>simp at hc;subst hc;simpa using hfull
     | succ j=>simp at hc;simpa using i5 j c hc
    ·cases j with
     | zero =>
      simp at hc;subst hc
      have hk:exBlk (a.tmps.getD t undef) v=some k:=hk
      exact⟨⟨_,ht0 k hk⟩,fun l e=>(k2.tok none k hk).2.2.2 l (i4 l k e)⟩
     | succ j =>
      simp at hc hk
      obtain⟨⟨l,hl⟩,q⟩:=i6 j c k hc hk
      exact⟨⟨l,own_le hle hl⟩,q⟩
    ·cases j with
     | zero =>
      cases j' with
      | zero=>rfl
      | succ j' =>
       have hk:exBlk (a.tmps.getD t undef) c=some k:=hk
       simp at hc hc' hk'
       subst hc
       obtain⟨⟨l,hl⟩,q⟩:=i6 j' c' k hc' hk'
       exact absurd hl ((k2.tok none k hk).2.2.2 l)
     | succ j =>
      cases j' with
      | zero =>
       have hk':exBlk (a.tmps.getD t undef) c'=some k:=hk'
       simp at hc hc' hk
       subst hc'
       obtain⟨⟨l,hl⟩,q⟩:=i6 j c k hc hk
       exact absurd hl ((k2.tok none k hk').2.2.2 l)
      | succ j' =>
       simp at hc hc' hk hk'
       rw[i7 j j' c c' k hc hc' hk hk']
   ·cases e
theorem qd7 {fn:Func} {r:AV} {s':List (List AV)} (h:Sim B T0 μ0 w0 N μ lx a w st) (h0:μ0.df=[]) (e:outA P hh fn st=some (r,s')) :
  ∃v,(results fn a.tmps).run P w=.ok v w∧Sim B T0 μ0 w0 1 μ (fun _=>none) ⟨#[v],[]⟩ w ⟨[(0,r)],[],s'⟩:=by
 unfold outA at e
 split at e
 ·rename_i t ht
  have hfr:fn.results=#[.tmp t]:=by apply Array.ext';simpa using ht
  obtain⟨v,hv,e⟩:=qa e
  split at e
  ·rename_i hp
   simp only[Option.some.injEq,Prod.mk.injEq] at e
   obtain⟨e1,rfl⟩:=e
   refine⟨a.tmps.getD t undef,results_tmp hfr _ _ _,?_⟩
   split at e1
   ·subst e1
    obtain⟨k1,k2,k3,k4⟩:=take_sound (x:=.tmp t) (v:=v) (st':={st with t:=ins st.t t (dem v)}) h (by simp[takeOp,bnd,hv])
    have:=k1.out k2 fun d i q=>by subst q;cases hp
    exact this
   ·subst e1
    exact h.out (qdu (x:=.tmp t) h hv) fun d i q=>by cases v<;>simp[dem] at q;cases hp
  ·cases e
 ·split at e
  ·obtain⟨⟨l,st2⟩,hl,e⟩:=qa e
   obtain⟨us,i1,i2,i3,i4,i5,i6,i7⟩:=resultsT_sound (P:=P) _ h hl
   simp only at e
   split at e
   ·cases e
   ·cases e
   ·rename_i hn0 hn1
    simp only[Option.some.injEq,Prod.mk.injEq] at e
    obtain⟨rfl,rfl⟩:=e
    refine⟨_,results_run i1,?_⟩
    have hne:¬us.toArray.size=1:=by
     intro h3
     simp[i2] at h3
     match l,hn1,h3 with
     | [v],hn,_=>exact hn v rfl
    rw[dif_neg hne]
    refine i3.out ⟨⟨.tup _ _ (by simp[i2]) (fun j c hc=>by simpa using (i5 j c hc).1),fun j c hc=>by have:=(i5 j c hc).2;simpa[comp] using this⟩,fun j k hk=>?_,fun j j' k e e'=>?_⟩ fun d i q=>by cases q
    ·cases j with
     | none=>cases hk
     | some j =>
      simp only[ownV] at hk
      cases hc:l[j]? with
      | none=>rw[hc] at hk;cases hk
      | some c =>
       rw[hc] at hk
       simp only[Option.bind_some,comp] at hk
       obtain⟨⟨l0,hl0⟩,q⟩:=i6 j c k hc (by simpa using hk)
       have:=h.rng l0 k hl0
       exact⟨this.1,this.2.1,this.2.2,q⟩
    ·cases j with
     | none=>cases e
     | some j=>cases j' with
      | none=>cases e'
      | some j' =>
       simp only[ownV] at e e'
       cases hc:l[j]? with
       | none=>rw[hc] at e;cases e
       | some c=>cases hc':l[j']? with
        | none=>rw[hc'] at e';cases e'
        | some c' =>
         rw[hc] at e;rw[hc'] at e'
         simp only[Option.bind_some,comp] at e e'
         rw[i7 j j' c c' k hc hc' (by simpa using e) (by simpa using e')]
  obtain⟨l,hl,e⟩:=qa e
  obtain⟨us,hus,h1,h2⟩:=resultsA_sound h _ hl
  refine⟨_,results_run hus,?_⟩
  have tupc:∀l':List AV,l'=l→l'.length≠1→Sim B T0 μ0 w0 1 μ (fun _=>none) ⟨#[if h:us.toArray.size=1 then us.toArray[0] else .tuple us.toArray],[]⟩ w ⟨[(0,.tup l')],[],st.s⟩:=by
   intro l' hl' hn
   subst hl'
   have hne:¬us.toArray.size=1:=by simpa[h1] using hn
   rw[dif_neg hne]
   refine h.out (.mk' ⟨.tup _ _ (by simp[h1]) (fun j c hc=>by simpa using (h2 j c hc).1),fun j c hc=>qaq (h2 j c hc).2.1⟩ fun j=>?_) fun d i q=>by cases q
   cases j with
   | none=>rfl
   | some j =>
    simp only[ownV]
    cases hc:l'[j]? with
    | none=>rfl
    | some c=>simp only[Option.bind_some];exact qt (h2 j c hc).2.1
  split at e
  ·rename_i v
   simp only[Option.some.injEq,Prod.mk.injEq] at e
   obtain⟨rfl,rfl⟩:=e
   obtain⟨u,rfl⟩:∃u,us=[u]:=by
    match us,h1 with
    | [u],_=>exact⟨u,rfl⟩
   have hv:=h2 0 v (by simp)
   refine h.out (.mk' ?_ fun j=>?_) fun d i q=>by subst q;simp[pers] at hv
   ·have hT:Tk1 B μ w u v:=qaq hv.2.1
    cases v with
    | lp d i=>simp[pers] at hv
    | tup xs=>simp[pers] at hv
    | _=>exact⟨by simpa using hv.1,hT⟩
   ·cases j with
    | none=>exact qt hv.2.1
    | some j=>cases v<;>first|rfl|simp[pers] at hv
  ·rename_i hn
   simp only[Option.some.injEq,Prod.mk.injEq] at e
   obtain⟨rfl,rfl⟩:=e
   refine tupc l rfl fun h3=>?_
   match l,hn,h3 with
   | [v],hn,_=>exact hn v rfl
theorem Sim.wide {vs:Array Value} {as:List AV} {s:List (List AV)} {n:Nat} (h:Sim B T0 μ0 w0 vs.size μ lx ⟨vs,[]⟩ w ⟨params 0 as,[],s⟩) (hl:vs.size=as.length) (hn:vs.size≤n) :
  Sim B T0 μ0 w0 n μ lx ⟨vs++Array.replicate (n-vs.size) undef,[]⟩ w ⟨params 0 as,[],s⟩:=by
 have hg:∀i u,look (params 0 as) i=some u→(vs++Array.replicate (n-vs.size) undef).getD i undef=vs.getD i undef:=by
  intro i u hu
  rw[qbs] at hu
  simp at hu
  have:i<vs.size:=by rw[hl];exact (List.getElem?_eq_some_iff.1 hu).1
  simp only[Array.getD_eq_getD_getElem?,Array.getElem?_append_left this]
 have hown:∀l,own ⟨vs++Array.replicate (n-vs.size) undef,[]⟩ lx μ w ⟨params 0 as,[],s⟩ l=own ⟨vs,[]⟩ lx μ w ⟨params 0 as,[],s⟩ l:=by
  intro l
  cases l with
  | t i j =>
   simp only[own]
   cases hq:look (params 0 as) i with
   | none=>rfl
   | some u=>simp only[Option.bind_some,hg i u hq]
  | _=>rfl
 constructor
 ·exact h.defs
 ·simp;omega
 ·exact h.ext
 ·intro i u hu;rw[show (⟨vs++Array.replicate (n-vs.size) undef,[]⟩:Act).tmps=_ from rfl,hg i u hu];exact h.tmp i u hu
 ·exact h.loc
 ·exact h.glb
 ·exact h.gdom
 ·intro l l' k e e';rw[hown] at e e';exact h.inj l l' k e e'
 ·intro l k e;rw[hown] at e;exact h.rng l k e
 ·exact h.fr0
 ·exact h.hB
 ·exact h.nd
 ·exact h.gbx
 ·exact h.mdf
abbrev Table:=FuncId→Option (List AV→List (List AV)→Option (AV×List (List AV)))
def TableOk (P:Program) (B:Nat) (W0:World) (T:Table):Prop :=
 ∀f p,T f=some p→∀as s r s',p as s=some (r,s')→Enters P (AI.base f)∧ACalls P B W0 (AI.base f) as s r s'
end
end Go.AI
end
section
namespace Go.AI
open Go.RowKit
set_option linter.unusedVariables false
section
variable {P:Program} {B:Nat} {T0:Nat→Prop} {μ0:Gh} {w0:World} {N:Nat} {μ:Gh} {lx:Nat→Option Nat} {a:Act} {w:World} {st:St}
theorem Sim.freezeBox (h:Sim B T0 μ0 w0 N μ lx a w st) {v:Value} {ty sz b off n:Nat} {cs els:List AV} (hr:Rep B μ w v (.ms ty sz b off n)) (hs:st.s[b]? = some cs) (e:readEls P ty sz cs off n=some els) :
  ∃μ',Sim B T0 μ0 w0 N μ' lx a w {st with s:=st.s.set b []}∧Ext B (fun k=>∀l,own a lx μ w {st with s:=st.s.set b []} l≠some k) μ w μ' w∧Rep B μ' w v (.sl .sh els) ∧
   (off=0→0<n→∃blk,exBlk v (.sl (.ex ty sz) els)=some blk∧Rep B μ' w v (.sl (.ex ty sz) els)∧Tk1 B μ' w v (.sl (.ex ty sz) els)∧B≤blk∧blk<w.heap.size∧(T0 blk∨w0.heap.size≤blk)∧∀l,own a lx μ' w {st with s:=st.s.set b []} l≠some blk):=by
 by_cases hn0:n=0
 ·subst hn0
  have hel:els=[]:=by
   unfold readEls at e
   obtain⟨g,hg,e⟩:=qa e
   obtain⟨m,hm,e⟩:=qa e
   split at e
   ·injection e with e;subst e;rfl
   ·cases e
  subst hel
  cases hr with
  | ms _ _ _ _ _ blk cap hb hsh hc hm hsz =>
   exact⟨μ,h.kill b,(Ext.refl _ _ _ _).mono (T:=fun _=>False) (fun _ _ h=>h.elim),.sl0 _ _ _ (by simp) hm,fun _ h=>by omega⟩
 ·have hne:cs≠[]:=by
   intro e0;subst e0
   unfold readEls at e
   obtain⟨g,hg,e⟩:=qa e
   obtain⟨m,hm,e⟩:=qa e
   split at e
   ·rename_i hq
    obtain⟨_,h0,_,h2⟩:=hq
    have:0<n*sz:=Nat.mul_pos (by omega) h0
    simp at h2;omega
   ·cases e
  obtain⟨blk,cap,cur,ho⟩:=h.open (els:=els) hr hs hne
  obtain⟨r1,r2,r3,r4,r5,r6⟩:=qcf e fun c hc=>by
   obtain⟨j,hj⟩:=List.mem_iff_getElem?.1 hc
   exact (ho.cell j c hj).1
  have hlc:=ho.len
  have hol:own a lx μ w st (.g b)=some blk:=by cases cs with|nil=>exact absurd rfl hne|cons c r=>simp[own,hs,ho.bx]
  have hrng:=h.rng _ _ hol
  have hkfree:∀l,own a lx μ w {st with s:=st.s.set b []} l≠some blk:=fun l e=>(own_kill e).2.1 (h.inj _ _ _ (own_kill e).1 hol)
  obtain⟨h2,hown2,x⟩:=(h.kill b).extend (q:=off+n*sz) (cur':=cur) hkfree hrng.1 hrng.2.2 ho.heap rfl (fun j hj=>rfl) (by rw[ho.fr];exact Nat.zero_le _)
  obtain⟨fz,hb',hok⟩:=ho.heap
  rw[setRow_self _ _ _ _ fz hb'] at h2 hown2 x
  have hfr:(mark μ blk (off+n*sz)).fr blk=off+n*sz:=by simp[mark]
  have hcell:∀k,k<els.length*sz→w.cell? ⟨blk,off+k,none⟩=some (cur.getD (off+k) undef)∧settled B (mark μ blk (off+n*sz)) blk (off+k):=by
   intro k hk
   rw[r1] at hk
   refine⟨?_,.inr (by rw[hfr];omega)⟩
   rw[ho.heap.cell];exact qb6 (by omega)
  have hrep:∀(i j:Nat) (c:AV),(els[i]?.bind fun e=>e.cells[j]?)=some c→Rep B (mark μ blk (off+n*sz)) w (cur.getD (off+(i*sz+j)) undef) c:=by
   intro i j c hc
   have hlt:=qct r5 hc
   rw[r1] at hlt
   obtain⟨c0,hc0,hc1⟩:=r6 i j hlt.1 hlt.2.1
   rw[hc] at hc1;injection hc1 with hc1;subst hc1
   rw[← Nat.add_assoc]
   exact (((ho.cell _ c0 hc0).2.1).dem).mono x
  have hv:=ho.v
  have mk:∀o:Own,o≠.nil→Rep B (mark μ blk (off+n*sz)) w v (.sl o els):=by
   intro o hno
   have:=Rep.sl (B:=B) (μ:=mark μ blk (off+n*sz)) (w:=w) blk off cap sz o els (fun k=>cur.getD (off+k) undef) hno r2 (by rw[r1];exact ho.nc) ho.cm r5 hcell hrep
   rw[r1] at this
   rw[hv];exact this
  refine⟨_,h2,x.mono (fun k hk hkb=>by subst hkb;exact hkfree),mk .sh (by simp),fun h0 hn=>?_⟩
  subst h0
  refine⟨blk,by rw[hv];rfl,mk _ (by simp),.inr ⟨blk,cap,cur,by rw[r1];exact hv,hrng.1,⟨fz,hb',hok⟩,by rw[r1];exact ho.nc,ho.cm,by have:=ho.size;omega,by rw[hfr,r1];omega,r5,r2⟩,hrng.1,hrng.2.1,hrng.2.2,fun l=>by rw[hown2];exact hkfree l⟩
theorem Sim.reslot {v:Value} {r r':AV} {s:List (List AV)} (h:Sim B T0 μ0 w0 1 μ lx ⟨#[v],[]⟩ w ⟨[(0,r)],[],s⟩) (hr:Rep B μ w v r') (hnl:∀d i,r'≠.lp d i) (ht:Tk B μ w v r')
  (htok:∀j k,ownV v r' j=some k→B≤k∧k<w.heap.size∧(T0 k∨w0.heap.size≤k)∧∀l,(∀j',l≠.t 0 j')→own ⟨#[v],[]⟩ lx μ w ⟨[(0,r)],[],s⟩ l≠some k)
  (hinj:∀j j' k,ownV v r' j=some k→ownV v r' j'=some k→j=j'):Sim B T0 μ0 w0 1 μ lx ⟨#[v],[]⟩ w ⟨[(0,r')],[],s⟩ :=
 h.put (d:=0) (v:=v) (by omega) (by cases r'<;>first|exact⟨hr,ht⟩|exact absurd rfl (hnl _ _)) htok hinj
theorem qcg {v:Value} {r:AV} {s:List (List AV)} (h:Sim B T0 μ0 w0 1 μ lx ⟨#[v],[]⟩ w ⟨[(0,r)],[],s⟩) (hnl:∀d i,r≠.lp d i):Rep B μ w v r∧Tk B μ w v r:=by
 have:=h.tmp 0 r (by simp[look])
 cases r<;>first|exact this|exact absurd rfl (hnl _ _)
theorem freezeC_sound {n0:Nat} {v:Value} {r:AV} (hnl:∀d i,r≠.lp d i):∀{xs xs':List AV} {us:Nat→Value} {s s':List (List AV)} {μ:Gh},Sim B T0 μ0 w0 1 μ lx ⟨#[v],[]⟩ w ⟨[(0,r)],[],s⟩ →
  (∀(j:Nat) (c:AV),xs[j]? = some c→Rep B μ w (us j) c∧plain c=true)→freezeC P n0 xs s=some (xs',s') →
  ∃μ',Sim B T0 μ0 w0 1 μ' lx ⟨#[v],[]⟩ w ⟨[(0,r)],[],s'⟩∧xs'.length=xs.length∧(∀{u:Value} {c:AV},Rep B μ w u c→Rep B μ' w u c)∧∀(j:Nat) (c:AV),xs'[j]? = some c→Rep B μ' w (us j) c∧plain c=true
 | [],xs',us,s,s',μ,h,hx,e=>by
  simp only[freezeC,Option.some.injEq,Prod.mk.injEq] at e
  obtain⟨rfl,rfl⟩:=e
  exact⟨μ,h,rfl,id,fun j c hc=>by simp at hc⟩
 | c::q,xs',us,s,s',μ,h,hx,e=>by
  have keep:∀{s1:List (List AV)} {c':AV} {μ1:Gh},Sim B T0 μ0 w0 1 μ1 lx ⟨#[v],[]⟩ w ⟨[(0,r)],[],s1⟩→(∀{u:Value} {c:AV},Rep B μ w u c→Rep B μ1 w u c)→Rep B μ1 w (us 0) c'→plain c'=true →
    (bnd (freezeC P n0 q s1) fun p=>some (c'::p.1,p.2))=some (xs',s') →
    ∃μ',Sim B T0 μ0 w0 1 μ' lx ⟨#[v],[]⟩ w ⟨[(0,r)],[],s'⟩∧xs'.length=(c::q).length∧(∀{u:Value} {c:AV},Rep B μ w u c→Rep B μ' w u c)∧∀(j:Nat) (c:AV),xs'[j]? = some c→Rep B μ' w (us j) c∧plain c=true:=by
   intro s1 c' μ1 h1 m1 r1 p1 e
   obtain⟨⟨ys,s2⟩,h2,e⟩:=qa e
   simp only[Option.some.injEq,Prod.mk.injEq] at e
   obtain⟨rfl,rfl⟩:=e
   obtain⟨μ2,k1,k2,k3,k4⟩:=freezeC_sound hnl (us:=fun j=>us (j+1)) h1 (fun j c hc=>⟨m1 (hx (j+1) c (by simpa using hc)).1,(hx (j+1) c (by simpa using hc)).2⟩) h2
   refine⟨μ2,k1,by simp[k2],fun z=>k3 (m1 z),fun j c hc=>?_⟩
   cases j with
   | zero=>simp at hc;subst hc;exact⟨k3 r1,p1⟩
   | succ j=>simp at hc;exact k4 j c hc
  have h0:=hx 0 c rfl
  simp only[freezeC] at e
  split at e
  ·rename_i ty sz b off n
   split at e
   ·obtain⟨cs,hcs,e⟩:=qa e
    obtain⟨els,hels,e⟩:=qa e
    obtain⟨μ',h2,x,r1,_⟩:=h.freezeBox h0.1 hcs hels
    exact keep h2 (fun z=>z.mono x) r1 rfl e
   ·exact keep h id h0.1 h0.2 e
  ·exact keep h id h0.1 h0.2 e
theorem Sim.recomp {v:Value} {c c':AV} {pre r:List AV} {s:List (List AV)} (h:Sim B T0 μ0 w0 1 μ lx ⟨#[v],[]⟩ w ⟨[(0,.tup (pre++c::r))],[],s⟩) (hr:Rep B μ w (comp v pre.length) c') (hq:quiet c'=true) :
  Sim B T0 μ0 w0 1 μ lx ⟨#[v],[]⟩ w ⟨[(0,.tup ((pre++[c'])++r))],[],s⟩:=by
 obtain⟨hr0,ht⟩:=qcg h (fun d i q=>by cases q)
 have same:∀j,j≠pre.length→(pre++c::r)[j]? = ((pre++[c'])++r)[j]?:=by
  intro j hjp
  by_cases hlt:j<pre.length
  ·rw[List.getElem?_append_left hlt,List.append_assoc,List.getElem?_append_left hlt]
  ·rw[List.getElem?_append_right (by omega),List.append_assoc,List.getElem?_append_right (by omega)]
   obtain⟨q,hq⟩:∃q,j-pre.length=q+1:=⟨j-pre.length-1,by omega⟩
   rw[hq];rfl
 have at_:((pre++[c'])++r)[pre.length]? = some c':=by simp
 cases hr0 with
 | tup vs _ hl hh =>
  have conv:∀j k,ownV (Value.tuple vs) (.tup ((pre++[c'])++r)) j=some k→own ⟨#[Value.tuple vs],[]⟩ lx μ w ⟨[(0,.tup (pre++c::r))],[],s⟩ (.t 0 j)=some k:=by
   intro j k hk
   cases j with
   | none=>simp[ownV,exBlk] at hk
   | some j =>
    simp only[own,look,if_true,Option.bind_some,ownV] at hk ⊢
    by_cases hjp:j=pre.length
    ·subst hjp;rw[at_] at hk;simp[qt hq] at hk
    ·rw[same j hjp];exact hk
  refine h.reslot (.tup vs _ (by simpa using hl) fun j d hd=>?_) (fun d i q=>by cases q) (fun j d hd=>?_) (fun j k hk=>?_) fun j j' k hk hk'=>?_
  ·by_cases hjp:j=pre.length
   ·subst hjp;rw[at_] at hd;injection hd with hd;subst hd;exact hr
   ·exact hh j d (by rw[same j hjp];exact hd)
  ·by_cases hjp:j=pre.length
   ·subst hjp;rw[at_] at hd;injection hd with hd;subst hd;exact qaq hq
   ·exact ht j d (by rw[same j hjp];exact hd)
  ·have h5:=h.rng _ k (conv j k hk)
   exact⟨h5.1,h5.2.1,h5.2.2,fun l hl e2=>hl j (h.inj _ _ k e2 (conv j k hk))⟩
  ·have:=h.inj _ _ k (conv j k hk) (conv j' k hk')
   injection this
theorem freeze1_sound {ex:Bool} {n0:Nat} {v:Value} {r r':AV} {s s':List (List AV)} (h:Sim B T0 μ0 w0 1 μ lx ⟨#[v],[]⟩ w ⟨[(0,r)],[],s⟩) (hnl:∀d i,r≠.lp d i) (e:freeze1 P ex n0 r s=some (r',s')) :
  ∃μ',Sim B T0 μ0 w0 1 μ' lx ⟨#[v],[]⟩ w ⟨[(0,r')],[],s'⟩∧∀d i,r'≠.lp d i:=by
 unfold freeze1 at e
 split at e
 ·rename_i ty sz b off n
  split at e
  ·obtain⟨cs,hcs,e⟩:=qa e
   obtain⟨els,hels,e⟩:=qa e
   simp only[Option.some.injEq,Prod.mk.injEq] at e
   obtain⟨rfl,rfl⟩:=e
   obtain⟨μ',h2,x,r1,r2⟩:=h.freezeBox (qcg h hnl).1 hcs hels
   refine⟨μ',?_,fun d i q=>by split at q<;>cases q⟩
   split
   ·rename_i hq
    obtain⟨blk,e1,e2,e3,e4,e5,e6,e7⟩:=r2 hq.2.1 hq.2.2
    refine h2.reslot e2 (fun d i q=>by cases q) e3 (fun j k hk=>?_) fun j j' k hk hk'=>?_
    ·cases j with
     | none=>simp only[ownV] at hk;rw[e1] at hk;injection hk with hk;subst hk;exact⟨e4,e5,e6,fun l _=>e7 l⟩
     | some j=>simp[ownV] at hk
    ·cases j with
     | some j=>simp[ownV] at hk
     | none=>cases j' with
      | some j=>simp[ownV] at hk'
      | none=>rfl
   ·exact h2.reslot r1 (fun d i q=>by cases q) trivial (fun j k hk=>by rw[ownV_sh] at hk;cases hk) (fun j j' k hk=>by rw[ownV_sh] at hk;cases hk)
  ·simp only[Option.some.injEq,Prod.mk.injEq] at e
   obtain⟨rfl,rfl⟩:=e
   exact⟨μ,h,hnl⟩
 ·rename_i xs
  obtain⟨⟨ys,s1⟩,hf,e⟩:=qa e
  simp only[Option.some.injEq,Prod.mk.injEq] at e
  obtain⟨rfl,rfl⟩:=e
  have hr0:=(qcg h hnl).1
  cases hr0 with
  | agg vs _ hl hp hh =>
   obtain⟨μ',k1,k2,k3,k4⟩:=freezeC_sound hnl (us:=fun j=>vs.getD j undef) h (fun j c hc=>⟨hh j c hc,hp c (List.mem_of_getElem? hc)⟩) hf
   exact⟨μ',k1.reslot (.agg vs _ (by omega) (fun c hc=>by
    obtain⟨j,hj⟩:=List.mem_iff_getElem?.1 hc
    exact (k4 j c hj).2) fun j c hc=>(k4 j c hc).1) (fun d i q=>by cases q) trivial (fun j k hk=>by cases j<;>simp[ownV,exBlk] at hk) (fun j j' k hk=>by cases j<;>simp[ownV,exBlk] at hk),fun d i q=>by cases q⟩
 ·simp only[Option.some.injEq,Prod.mk.injEq] at e
  obtain⟨rfl,rfl⟩:=e
  exact⟨μ,h,hnl⟩
theorem freezeL_sound {n0:Nat} {v:Value}:∀{xs xs' pre:List AV} {s s':List (List AV)} {μ:Gh},Sim B T0 μ0 w0 1 μ lx ⟨#[v],[]⟩ w ⟨[(0,.tup (pre++xs))],[],s⟩→freezeL P n0 xs s=some (xs',s') →
  ∃μ',Sim B T0 μ0 w0 1 μ' lx ⟨#[v],[]⟩ w ⟨[(0,.tup (pre++xs'))],[],s'⟩
 | [],xs',pre,s,s',μ,h,e=>by
  simp only[freezeL,Option.some.injEq,Prod.mk.injEq] at e
  obtain⟨rfl,rfl⟩:=e
  exact⟨μ,h⟩
 | c::r,xs',pre,s,s',μ,h,e=>by
  simp only[freezeL] at e
  obtain⟨⟨c',s1⟩,h1,e⟩:=qa e
  obtain⟨⟨r',s2⟩,h2,e⟩:=qa e
  simp only[Option.some.injEq,Prod.mk.injEq] at e
  obtain⟨rfl,rfl⟩:=e
  have key:∃μ',Sim B T0 μ0 w0 1 μ' lx ⟨#[v],[]⟩ w ⟨[(0,.tup ((pre++[c'])++r))],[],s1⟩:=by
   unfold freeze1 at h1
   split at h1
   ·rename_i ty sz b off n
    split at h1
    ·obtain⟨cs,hcs,h1⟩:=qa h1
     obtain⟨els,hels,h1⟩:=qa h1
     simp only[Bool.false_eq_true,false_and,if_false,Option.some.injEq,Prod.mk.injEq] at h1
     obtain⟨rfl,rfl⟩:=h1
     obtain⟨hr,ht⟩:=qcg h (fun d i q=>by cases q)
     cases hr with
     | tup vs _ hl hh =>
      have hc:(pre++AV.ms ty sz b off n::r)[pre.length]? = some (.ms ty sz b off n):=by simp
      obtain⟨μ',h3,x,r1,_⟩:=h.freezeBox (hh _ _ hc) hcs hels
      refine⟨μ',h3.reslot (.tup vs _ (by simpa using hl) fun j c hj=>?_) (fun d i q=>by cases q) (fun j c hj=>?_) (fun j k hk=>?_) fun j j' k hk hk'=>?_⟩
      ·by_cases hjp:j=pre.length
       ·subst hjp;simp at hj;subst hj;exact r1
       ·have hj2:(pre++AV.ms ty sz b off n::r)[j]? = some c:=by
         rw[← hj]
         by_cases hlt:j<pre.length
         ·rw[List.getElem?_append_left hlt,List.append_assoc,List.getElem?_append_left hlt]
         ·rw[List.getElem?_append_right (by omega),List.append_assoc,List.getElem?_append_right (by omega)]
          obtain⟨q,hq⟩:∃q,j-pre.length=q+1:=⟨j-pre.length-1,by omega⟩
          rw[hq];rfl
        exact (hh j c hj2).mono x
      ·by_cases hjp:j=pre.length
       ·subst hjp;simp at hj;subst hj;trivial
       ·have hj2:(pre++AV.ms ty sz b off n::r)[j]? = some c:=by
         rw[← hj]
         by_cases hlt:j<pre.length
         ·rw[List.getElem?_append_left hlt,List.append_assoc,List.getElem?_append_left hlt]
         ·rw[List.getElem?_append_right (by omega),List.append_assoc,List.getElem?_append_right (by omega)]
          obtain⟨q,hq⟩:∃q,j-pre.length=q+1:=⟨j-pre.length-1,by omega⟩
          rw[hq];rfl
        exact (ht j c hj2).ext x fun k hk hfree=>hfree (.t 0 (some j)) (by simp only[own,look,if_true,Option.bind_some,ownV];rw[hj2];exact hk)
      ·have:own ⟨#[Value.tuple vs],[]⟩ lx μ' w ⟨[(0,.tup (pre++AV.ms ty sz b off n::r))],[],s.set b []⟩ (.t 0 j)=some k:=by
        cases j with
        | none=>simp[ownV,exBlk] at hk
        | some j =>
         simp only[own,look,if_true,Option.bind_some,ownV] at hk ⊢
         by_cases hjp:j=pre.length
         ·subst hjp;simp[qt (c:=.sl .sh els) rfl] at hk
         ·have hj2:(pre++AV.ms ty sz b off n::r)[j]? = ((pre++[AV.sl .sh els])++r)[j]?:=by
           by_cases hlt:j<pre.length
           ·rw[List.getElem?_append_left hlt,List.append_assoc,List.getElem?_append_left hlt]
           ·rw[List.getElem?_append_right (by omega),List.append_assoc,List.getElem?_append_right (by omega)]
            obtain⟨q,hq⟩:∃q,j-pre.length=q+1:=⟨j-pre.length-1,by omega⟩
            rw[hq];rfl
          rw[hj2];exact hk
       have h5:=h3.rng _ k this
       exact⟨h5.1,h5.2.1,h5.2.2,fun l hl e2=>hl j (h3.inj _ _ k e2 this)⟩
      ·cases j with
       | none=>simp[ownV,exBlk] at hk
       | some j =>
        cases j' with
        | none=>simp[ownV,exBlk] at hk'
        | some j' =>
         have conv:∀j,ownV (Value.tuple vs) (.tup ((pre++[AV.sl .sh els])++r)) (some j)=some k→own ⟨#[Value.tuple vs],[]⟩ lx μ' w ⟨[(0,.tup (pre++AV.ms ty sz b off n::r))],[],s.set b []⟩ (.t 0 (some j))=some k:=by
          intro j hk
          simp only[own,look,if_true,Option.bind_some,ownV] at hk ⊢
          by_cases hjp:j=pre.length
          ·subst hjp;simp[qt (c:=.sl .sh els) rfl] at hk
          ·have hj2:(pre++AV.ms ty sz b off n::r)[j]? = ((pre++[AV.sl .sh els])++r)[j]?:=by
            by_cases hlt:j<pre.length
            ·rw[List.getElem?_append_left hlt,List.append_assoc,List.getElem?_append_left hlt]
            ·rw[List.getElem?_append_right (by omega),List.append_assoc,List.getElem?_append_right (by omega)]
             obtain⟨q,hq⟩:∃q,j-pre.length=q+1:=⟨j-pre.length-1,by omega⟩
             rw[hq];rfl
           rw[hj2];exact hk
         have:=h3.inj _ _ k (conv j hk) (conv j' hk')
         injection this
    ·simp only[Option.some.injEq,Prod.mk.injEq] at h1
     obtain⟨rfl,rfl⟩:=h1
     exact⟨μ,by simpa using h⟩
   ·rename_i xs
    obtain⟨⟨ys,sy⟩,hf,h1⟩:=qa h1
    simp only[Option.some.injEq,Prod.mk.injEq] at h1
    obtain⟨rfl,rfl⟩:=h1
    obtain⟨hr,ht⟩:=qcg h (fun d i q=>by cases q)
    cases hr with
    | tup vs _ hl hh =>
     have hc:(pre++AV.agg xs::r)[pre.length]? = some (.agg xs):=by simp
     have hra:=hh _ _ hc
     generalize hva:vs.getD pre.length undef=va at hra
     cases hra with
     | agg ws _ hl2 hp2 hh2 =>
      obtain⟨μ',k1,k2,k3,k4⟩:=freezeC_sound (fun d i q=>by cases q) (us:=fun j=>ws.getD j undef) h (fun j c hc=>⟨hh2 j c hc,hp2 c (List.mem_of_getElem? hc)⟩) hf
      refine⟨μ',k1.recomp ?_ rfl⟩
      show Rep B μ' w (vs.getD pre.length undef) _
      rw[hva]
      exact .agg ws _ (by omega) (fun c hc=>by
       obtain⟨j,hj⟩:=List.mem_iff_getElem?.1 hc
       exact (k4 j c hj).2) fun j c hc=>(k4 j c hc).1
   ·simp only[Option.some.injEq,Prod.mk.injEq] at h1
    obtain⟨rfl,rfl⟩:=h1
    exact⟨μ,by simpa using h⟩
  obtain⟨μ1,h3⟩:=key
  obtain⟨μ2,h4⟩:=freezeL_sound h3 h2
  exact⟨μ2,by simpa using h4⟩
theorem freezeT_sound {hh:Hint} {n0:Nat} {v:Value} {r r':AV} {s s':List (List AV)} (h:Sim B T0 μ0 w0 1 μ lx ⟨#[v],[]⟩ w ⟨[(0,r)],[],s⟩) (hnl:∀d i,r≠.lp d i) (e:freezeT P hh n0 r s=some (r',s')) :
  ∃μ',Sim B T0 μ0 w0 1 μ' lx ⟨#[v],[]⟩ w ⟨[(0,r')],[],s'⟩∧∀d i,r'≠.lp d i:=by
 unfold freezeT at e
 split at e
 ·obtain⟨⟨xs',s1⟩,h1,e⟩:=qa e
  simp only[Option.some.injEq,Prod.mk.injEq] at e
  obtain⟨rfl,rfl⟩:=e
  obtain⟨μ',h2⟩:=freezeL_sound (pre:=[]) h h1
  exact⟨μ',h2,fun d i q=>by cases q⟩
 ·exact freeze1_sound h hnl e
theorem Rep.weak {v:Value} {c:AV} (h:Rep B μ w v c):Rep B μ w v (weak c):=by
 cases h with
 | ifc t v a h=>exact .ifx t v
 | slnil o=>exact .slnil o
 | sl0 a cap o ho hm=>exact .sl0 a cap o ho hm
 | sl b off cap sz o els f ho hsz hc hm hu hcell hrep=>exact .sl b off cap sz o els f ho hsz hc hm hu hcell hrep
 | bool b=>exact .bool b
 | int k n=>exact .int k n
 | str s=>exact .str s
 | agg vs cs hl hp h=>exact .agg vs cs hl hp h
 | tup vs cs hl h=>exact .tup vs cs hl h
 | vp b off i xs f hp hcell hrep=>exact .vp b off i xs f hp hcell hrep
 | gp b i blk sh h hs=>exact .gp b i blk sh h hs
 | ms ty sz b off n blk cap h hs hc hm hsz=>exact .ms ty sz b off n blk cap h hs hc hm hsz
 | nilp=>exact .nilp
 | mp r clock es ks vs f h hl hv hk hp hr=>exact .mp r clock es ks vs f h hl hv hk hp hr
 | fn f vs cs hl hp h=>exact .fn f vs cs hl hp h
 | fb f vs cs hl hp h=>exact .fb f vs cs hl hp h
 | nilf=>exact .nilf
 | ifx t v=>exact .ifx t v
 | any v h=>exact .any v h
 | nili=>exact .nili
theorem qgv (v:Value) (c:AV):exBlk v (weak c)=exBlk v c:=by cases c<;>first|rfl|(cases v<;>first|rfl|(rename_i ad _ _;cases ad<;>rfl))
theorem qq8 {v:Value} {c:AV} (h:Tk1 B μ w v c):Tk1 B μ w v (weak c):=by cases c<;>exact h
theorem qjv {v:Value} {r:AV} {s:List (List AV)} (h:Sim B T0 μ0 w0 1 μ lx ⟨#[v],[]⟩ w ⟨[(0,r)],[],s⟩) (hnl:∀d i,r≠.lp d i) :
  Sim B T0 μ0 w0 1 μ lx ⟨#[v],[]⟩ w ⟨[(0,weakT r)],[],s⟩∧∀d i,weakT r≠.lp d i:=by
 obtain⟨hr,ht⟩:=qcg h hnl
 have hown:∀j,ownV v (weakT r) j=ownV v r j:=by
  intro j
  cases r with
  | tup xs =>
   cases j with
   | none=>cases v<;>first|rfl|(rename_i ad _ _;cases ad<;>rfl)
   | some j =>
    simp only[weakT,ownV,List.getElem?_map]
    cases xs[j]? with
    | none=>rfl
    | some c=>simp[qgv]
  | _=>cases j<;>first|rfl|(simp only[weakT,ownV];first|exact qgv _ _|rfl)
 have tok:∀j k,ownV v (weakT r) j=some k→own ⟨#[v],[]⟩ lx μ w ⟨[(0,r)],[],s⟩ (.t 0 j)=some k:=by
  intro j k hk
  rw[hown] at hk
  simp only[own,look,if_true,Option.bind_some]
  exact hk
 have hn:∀d i,weakT r≠.lp d i:=by
  intro d i q
  cases r<;>simp[weakT,weak] at q
  exact hnl _ _ (by rw[q.1,q.2])
 refine⟨h.reslot ?_ hn ?_ (fun j k hk=>?_) fun j j' k hk hk'=>?_,hn⟩
 ·cases r with
  | tup xs =>
   cases hr with
   | tup vs cs hl hh =>
    refine .tup vs _ (by simpa using hl) fun j c hc=>?_
    rw[List.getElem?_map] at hc
    cases hx:xs[j]? with
    | none=>simp[hx] at hc
    | some x=>simp[hx] at hc;subst hc;exact (hh j x hx).weak
  | _=>exact hr.weak
 ·cases r with
  | tup xs =>
   intro j c hc
   rw[List.getElem?_map] at hc
   cases hx:xs[j]? with
   | none=>simp[hx] at hc
   | some x=>simp[hx] at hc;subst hc;exact qq8 (ht j x hx)
  | _=>first|trivial|exact ht
 ·have:=h.rng _ k (tok j k hk)
  exact⟨this.1,this.2.1,this.2.2,fun l hl e=>hl j (h.inj _ _ k e (tok j k hk))⟩
 ·have:=h.inj _ _ k (tok j k hk) (tok j' k hk')
  injection this
theorem qah {n:Nat}:∀{xs:List AV},lowL n xs↔∀x∈xs,low n x
 | []=>by simp[lowL]
 | x::r=>by simp[lowL,qah (xs:=r)]
def cut (μ:Gh) (n:Nat):Gh:={μ with bx:=fun b=>if b<n then μ.bx b else none}
theorem qnn {n:Nat} {e c:AV} {j:Nat} (h:low n e) (hc:e.cells[j]? = some c):low n c:=by
 cases e with
 | agg xs=>simp only[low,qah] at h;exact h c (List.mem_of_getElem? hc)
 | _=>cases j<;>simp[AV.cells] at hc;subst hc;exact h
theorem Rep.cut {v:Value} {c:AV} {n:Nat} (h:Rep B μ w v c) (hl:low n c):Rep B (AI.cut μ n) w v c:=by
 induction h with
 | bool b=>exact .bool b
 | int k n=>exact .int k n
 | str s=>exact .str s
 | slnil o=>exact .slnil o
 | sl0 a cap o ho hm=>exact .sl0 a cap o ho hm
 | sl b off cap sz o els f ho hsz hc hm hu hcell hrep ih =>
  refine .sl b off cap sz o els f ho hsz hc hm hu hcell fun i j c hq=>ih i j c hq ?_
  simp only[low,qah] at hl
  cases hx:els[i]? with
  | none=>simp[hx] at hq
  | some e=>rw[hx] at hq;exact qnn (hl e (List.mem_of_getElem? hx)) hq
 | agg vs cs hl' hp h ih =>
  simp only[low,qah] at hl
  exact .agg vs cs hl' hp fun j c hc=>ih j c hc (hl c (List.mem_of_getElem? hc))
 | tup vs cs hl' h ih =>
  simp only[low,qah] at hl
  exact .tup vs cs hl' fun j c hc=>ih j c hc (hl c (List.mem_of_getElem? hc))
 | vp b off i xs f hp hcell hrep ih =>
  simp only[low,qah] at hl
  exact .vp b off i xs f hp hcell fun k c hc=>ih k c hc (hl c (List.mem_of_getElem? hc))
 | gp b i blk sh h hs=>exact .gp b i blk sh (by simp only[low] at hl;simp[AI.cut,hl,h]) hs
 | ms ty sz b off n' blk cap h hs hc hm hsz=>exact .ms ty sz b off n' blk cap (by simp only[low] at hl;simp[AI.cut,hl,h]) hs hc hm hsz
 | nilp=>exact .nilp
 | mp r clock es ks vs f h hl' hv hk hp hr ih =>
  simp only[low,qah] at hl
  exact .mp r clock es ks vs f h hl' hv hk hp fun i c hc=>ih i c hc (hl c (List.mem_of_getElem? hc))
 | fn f vs cs hl' hp h ih =>
  simp only[low,qah] at hl
  exact .fn f vs cs hl' hp fun j c hc=>ih j c hc (hl c (List.mem_of_getElem? hc))
 | fb f vs cs hl' hp h ih =>
  simp only[low,qah] at hl
  exact .fb f vs cs hl' hp fun j c hc=>ih j c hc (hl c (List.mem_of_getElem? hc))
 | nilf=>exact .nilf
 | ifc t v a h ih=>simp only[low] at hl;exact .ifc t v a (ih hl)
 | ifx t v=>exact .ifx t v
 | any v h=>exact .any v h
 | nili=>exact .nili
theorem Rep.low_of {v:Value} {c:AV} {n:Nat} (h:Rep B μ w v c) (hd:∀b,n≤b→μ.bx b=none):low n c:=by
 have lt:∀{b k},μ.bx b=some k→b<n:=fun {b k} e=>by
  rcases Nat.lt_or_ge b n with q|q
  ·exact q
  ·rw[hd b q] at e;cases e
 induction h with
 | sl b off cap sz o els f ho hsz hc hm hu hcell hrep ih =>
  simp only[low,qah]
  intro x hx
  obtain⟨i,hi⟩:=List.mem_iff_getElem?.1 hx
  cases x with
  | agg xs =>
   simp only[low,qah]
   intro c hc
   obtain⟨j,hj⟩:=List.mem_iff_getElem?.1 hc
   exact ih i j c (by rw[hi];exact hj)
  | _=>exact ih i 0 _ (by rw[hi];rfl)
 | slnil o=>simp[low,lowL]
 | sl0 a cap o ho hm=>simp[low,lowL]
 | agg vs cs hl' hp h ih =>
  simp only[low,qah];intro c hc
  obtain⟨j,hj⟩:=List.mem_iff_getElem?.1 hc
  exact ih j c hj
 | tup vs cs hl' h ih =>
  simp only[low,qah];intro c hc
  obtain⟨j,hj⟩:=List.mem_iff_getElem?.1 hc
  exact ih j c hj
 | vp b off i xs f hp hcell hrep ih =>
  simp only[low,qah];intro c hc
  obtain⟨j,hj⟩:=List.mem_iff_getElem?.1 hc
  exact ih j c hj
 | gp b i blk sh h hs=>simp only[low];exact lt h
 | ms ty sz b off n' blk cap h hs hc hm hsz=>simp only[low];exact lt h
 | fn f vs cs hl' hp h ih =>
  simp only[low,qah];intro c hc
  obtain⟨j,hj⟩:=List.mem_iff_getElem?.1 hc
  exact ih j c hj
 | fb f vs cs hl' hp h ih =>
  simp only[low,qah];intro c hc
  obtain⟨j,hj⟩:=List.mem_iff_getElem?.1 hc
  exact ih j c hj
 | mp r clock es ks vs f h hl' hv hk hp hr ih =>
  simp only[low,qah];intro c hc
  obtain⟨j,hj⟩:=List.mem_iff_getElem?.1 hc
  exact ih j c hj
 | ifc t v a h ih=>simp only[low];exact ih
 | _=>simp[low]
theorem Sim.gc {v:Value} {r:AV} {s s0:List (List AV)} {N0:Nat} {a0:Act} {st0:St} {lx0:Nat→Option Nat} (hE:Sim B T0 μ0 w0 N0 μ0 lx0 a0 w0 st0) (hs0:st0.s=s0)
  (h:Sim B T0 μ0 w0 1 μ lx ⟨#[v],[]⟩ w ⟨[(0,r)],[],s⟩) (hnl:∀d i,r≠.lp d i) (hr:low s0.length r) (hs:lowS s0 s):Sim B T0 μ0 w0 1 (AI.cut μ s0.length) lx ⟨#[v],[]⟩ w ⟨[(0,r)],[],s.take s0.length⟩:=by
 have hd0:∀b,s0.length≤b→μ0.bx b=none:=by rw[← hs0];exact hE.gdom
 have hx:Ext B T0 μ0 w0 (AI.cut μ s0.length) w:=by
  refine⟨h.ext.below,h.ext.same,h.ext.kept,h.ext.fr,fun b k e=>?_,h.ext.sh,h.ext.mp,fun e=>h.ext.df e⟩
  have hb:b<s0.length:=by
   rcases Nat.lt_or_ge b s0.length with q|q
   ·exact q
   ·rw[hd0 b q] at e;cases e
  simp[AI.cut,hb,h.ext.bx b k e]
 have hbx:∀b k,(AI.cut μ s0.length).bx b=some k→μ.bx b=some k∧b<s0.length:=by
  intro b k e
  simp only[AI.cut] at e
  split at e
  ·rename_i q;exact⟨e,q⟩
  ·cases e
 have hown:∀l k,own ⟨#[v],[]⟩ lx (AI.cut μ s0.length) w ⟨[(0,r)],[],s.take s0.length⟩ l=some k→own ⟨#[v],[]⟩ lx μ w ⟨[(0,r)],[],s⟩ l=some k:=by
  intro l k e
  cases l with
  | t i j=>exact e
  | l d=>exact e
  | lc d j=>exact e
  | g b =>
   simp only[own] at e ⊢
   rw[List.getElem?_take] at e
   split at e
   ·rename_i hb
    cases hq:s[b]? with
    | none=>rw[hq] at e;simp at e
    | some cs =>
     rw[hq] at e
     cases cs with
     | nil=>simp at e
     | cons c r=>simp at e ⊢;exact (hbx _ _ e).1
   ·simp at e
  | gc b j =>
   simp only[own] at e ⊢
   rw[List.getElem?_take] at e
   split at e
   ·rename_i hb
    have:(AI.cut μ s0.length).bx b=μ.bx b:=by simp[AI.cut,hb]
    rw[this] at e;exact e
   ·simp[ownB] at e
 have hslot:=qcg h hnl
 constructor
 ·exact h.defs
 ·exact h.size
 ·exact hx
 ·intro i u hu
  simp only[look] at hu
  split at hu
  ·rename_i hi;subst hi;injection hu with hu;subst hu
   have hrc:=hslot.1.cut hr
   have htc:=hslot.2
   cases r with
   | lp d i=>exact absurd rfl (hnl _ _)
   | _=>exact⟨hrc,htc⟩
  ·cases hu
 ·intro d cs e;simp[look] at e
 ·intro b cs blk hc hb hne
  simp only at hc
  rw[List.getElem?_take] at hc
  split at hc
  ·rename_i hlt
   obtain⟨hb1,_⟩:=hbx _ _ hb
   obtain⟨vs,ty,g1,g2,g3,g4⟩:=h.glb b cs blk hc hb1 hne
   refine⟨vs,ty,g1,g2,g3,fun j c hj=>?_⟩
   obtain⟨p1,p2,p3⟩:=g4 j c hj
   have hlow:low s0.length c:=by
    rcases hs b hlt with q|⟨cs',q,hl⟩
    ·rw[hc] at q
     obtain⟨k0,hk0⟩:∃k0,μ0.bx b=some k0:=by
      cases hq:μ0.bx b with
      | some k0=>exact⟨k0,rfl⟩
      | none=>exact absurd hq (hE.gbx b (by rw[hs0];exact hlt))
     obtain⟨vs0,ty0,_,_,_,g40⟩:=hE.glb b cs k0 (by rw[hs0];exact q.symm) hk0 hne
     exact (g40 j c hj).2.1.low_of hd0
    ·rw[hc] at q;injection q with q;subst q
     exact qah.1 hl c (List.mem_of_getElem? hj)
   have hp2:=p2.cut hlow
   have hp3:Tk1 B (AI.cut μ s0.length) w (vs.getD j undef) c:=p3
   exact⟨p1,hp2,hp3⟩
  ·cases hc
 ·intro b hb
  simp only[List.length_take] at hb
  simp only[AI.cut]
  split
  ·rename_i hlt;exact h.gdom b (by simp;omega)
  ·rfl
 ·intro l l' k e e';exact h.inj l l' k (hown l k e) (hown l' k e')
 ·intro l k e;exact h.rng l k (hown l k e)
 ·exact h.fr0
 ·exact h.hB
 ·exact h.nd
 ·intro b hb
  simp only[List.length_take] at hb
  have hb1:b<s0.length:=by omega
  simp only[AI.cut,hb1,if_true]
  exact h.gbx b (by simp;omega)
 ·exact h.mdf
end
end Go.AI
end
section

end
section
namespace Go.AI
open Go.RowKit
set_option linter.unusedVariables false
section
variable {P:Program} {B:Nat} {T0:Nat→Prop} {μ0:Gh} {w0:World} {N:Nat} {μ:Gh} {lx:Nat→Option Nat} {a:Act} {w:World} {st:St} {hh:Hint} {C:Oracle} {W0:World}
theorem qgw {v:Value} {q r:AV} {s s0 s':List (List AV)} {N0:Nat} {a0:Act} {st0:St} {lx0:Nat→Option Nat} (hE:Sim B T0 μ0 w0 N0 μ0 lx0 a0 w0 st0) (hs0:st0.s=s0)
  (h:Sim B T0 μ0 w0 1 μ (fun _=>none) ⟨#[v],[]⟩ w ⟨[(0,q)],[],s⟩) (e:endA P hh s0 (q,s)=some (r,s')):∃μ',Sim B T0 μ0 w0 1 μ' (fun _=>none) ⟨#[v],[]⟩ w ⟨[(0,r)],[],s'⟩:=by
 have hnl:∀d i,q≠.lp d i:=by
  intro d i hq;subst hq
  obtain⟨blk,hb,_⟩:=h.tmp 0 (.lp d i) (by simp[look])
  cases hb
 unfold endA at e
 obtain⟨⟨q1,s1⟩,h1,e⟩:=qa e
 obtain⟨μ1,k1,n1⟩:∃μ',Sim B T0 μ0 w0 1 μ' (fun _=>none) ⟨#[v],[]⟩ w ⟨[(0,q1)],[],s1⟩∧∀d i,q1≠.lp d i:=by
  split at h1
  ·simp only[Option.some.injEq,Prod.mk.injEq] at h1
   obtain⟨rfl,rfl⟩:=h1
   exact⟨μ,h,hnl⟩
  ·exact freezeT_sound h hnl h1
 simp only at e
 obtain⟨q2,hq2,k2,n2⟩:∃q2,q2=(if hh.wk then weakT q1 else q1)∧Sim B T0 μ0 w0 1 μ1 (fun _=>none) ⟨#[v],[]⟩ w ⟨[(0,q2)],[],s1⟩∧∀d i,q2≠.lp d i:=by
  split
  ·exact⟨_,rfl,qjv k1 n1⟩
  ·exact⟨_,rfl,k1,n1⟩
 rw[← hq2] at e
 split at e
 ·obtain⟨⟨p1,p2⟩,e⟩:=qo e
  simp only[Option.some.injEq,Prod.mk.injEq] at e
  obtain⟨rfl,rfl⟩:=e
  exact⟨_,hE.gc hs0 k2 n2 p1 p2⟩
 ·simp only[Option.some.injEq,Prod.mk.injEq] at e
  obtain⟨rfl,rfl⟩:=e
  exact⟨_,k2⟩
theorem finE_eq {fn:Func} {s0:List (List AV)} {x:Option (Ex×St)} {r:AV×List (List AV)} (h:finE P hh s0 fn x=some r):∃e st,x=some (e,st)∧(e=.normal∨e=.ret)∧bnd (outA P hh fn st) (endA P hh s0)=some r:=by
 unfold finE at h
 split at h
 ·exact⟨_,_,rfl,.inl rfl,h⟩
 ·exact⟨_,_,rfl,.inr rfl,h⟩
 ·cases h
theorem qq9 {H:FuncId→Hint} {T:Table} (hT:TableOk P B W0 T) (hD:∀n f,DrawOk P B W0 (H f) (ev P H T n)):∀n,OracleOk P B W0 (ev P H T n):=by
 intro n
 induction n with
 | zero=>intro f as s r s' e;cases e
 | succ n ih =>
  intro f as s r s' e
  simp only[ev] at e
  split at e
  ·rename_i p hp;exact hT f p hp as s r s' e
  split at e
  ·cases e
  ·obtain⟨fn,hf,e⟩:=qa e
   obtain⟨c,hc,e⟩:=qa e
   split at e
   ·rename_i hok
    obtain⟨h1,h2,h3⟩:=hok
    refine⟨⟨fn,hf,by rw[hc];rfl,h3⟩,?_⟩
    obtain⟨x,st,hx,hxe,ho⟩:=finE_eq e
    obtain⟨⟨q,sq⟩,ho,he⟩:=qa ho
    intro T0 μ w vs hsz hW hs
    refine calls_of_wp hf hc ?_
    have hw:=hs.wide hsz (n:=fn.ntmps) (by omega)
    refine (qar (T0:=T0) (μ0:=μ) (w0:=w) hW ih (hD n f) n c _ hw h2 hx ?_).1
    intro μ' lx' a' w' hs'
    obtain⟨v,hv,ho⟩:=qd7 hs' hs.mdf ho
    obtain⟨μ2,ho2⟩:=qgw hs rfl ho he
    rcases hxe with rfl|rfl
    ·exact⟨hs'.defs.trans hs.mdf,v,hv,v,μ2,rfl,ho2⟩
    ·exact⟨hs'.defs.trans hs.mdf,v,hv,v,μ2,rfl,ho2⟩
   ·cases e
end
end Go.AI
end
section
namespace Go.AI
set_option linter.unusedVariables false
def Cle (C C':Oracle):Prop:=∀f as s r,C f as s=some r→C' f as s=some r
section
variable {P:Program} {hh:Hint} {C C':Oracle}
theorem qch (hC:Cle C C') {o:Oper} {st st':St} (e:stepOp P hh C o st=some st'):stepOp P hh C' o st=some st':=by
 obtain⟨d,op,T,pos,af,g⟩:=o
 cases op with
 | call c =>
  obtain⟨callee,xs,ts⟩:=c
  cases callee with
  | value f =>
   simp only[stepOp] at e ⊢
   obtain⟨p,hp,e⟩:=qa e
   split at hp
   ·rename_i hm;rw[if_pos hm,hp];exact e
   ·rename_i hm
    rw[if_neg hm]
    simp only[opVal,callA] at hp ⊢
    obtain⟨gv,hg,hp⟩:=qa hp
    rw[hg]
    simp only[bnd]
    split at hp
    ·split at hp
     ·rename_i hlt
      rw[if_pos hlt]
      obtain⟨us,hu,hp⟩:=qa hp
      obtain⟨vs,hv,hp⟩:=qa hp
      obtain⟨q,hq,hp⟩:=qa hp
      obtain⟨r,hr,hp⟩:=qa hp
      simp only[hu,hv,hq,bnd,hC _ _ _ _ hr]
      injection hp with hp;subst hp
      exact e
     ·cases hp
    ·split at hp
     ·rename_i hlt
      rw[if_pos hlt]
      obtain⟨us,hu,hp⟩:=qa hp
      obtain⟨vs,hv,hp⟩:=qa hp
      obtain⟨r,hr,hp⟩:=qa hp
      simp only[hu,hv,bnd,hC _ _ _ _ hr]
      injection hp with hp;subst hp
      exact e
     ·cases hp
    ·cases hp
  | invoke rv m =>
   simp only[stepOp] at e ⊢
   obtain⟨p,hp,e⟩:=qa e
   split at hp
   ·rename_i hm;rw[if_pos hm,hp];exact e
   ·rename_i hm
    rw[if_neg hm]
    simp only[opVal,callA] at hp ⊢
    obtain⟨gv,hg,hp⟩:=qa hp
    rw[hg]
    simp only[bnd]
    split at hp
    ·obtain⟨gf,hi,hp⟩:=qa hp
     split at hp
     ·rename_i hlt
      obtain⟨hme,hp⟩:=qo hp
      obtain⟨us,hu,hp⟩:=qa hp
      obtain⟨vs,hv,hp⟩:=qa hp
      obtain⟨r,hr,hp⟩:=qa hp
      simp only[hi,if_pos hlt,need,if_pos hme,hu,hv,bnd,hC _ _ _ _ hr]
      injection hp with hp;subst hp
      exact e
     ·cases hp
    ·cases hp
  | builtin b=>cases b<;>exact e
 | makeFunc fn x y=>cases fn<;>exact e
 | _=>exact e
theorem qk8 {α:Type} {c:Option Bool} {x y:Option α} {r:α} (h:sel c x y=some r):(c=some true∧x=some r)∨(c=some false∧y=some r):=by
 unfold sel at h
 split at h
 ·exact .inl ⟨rfl,h⟩
 ·exact .inr ⟨rfl,h⟩
 ·cases h
theorem qfg (hC:Cle C C') (ops:List Oper):∀(r:List Oper) {st st':St},runOps P hh C ops r st=some st'→runOps P hh C' ops r st=some st':=by
 intro r
 induction r with
 | nil=>intro st st' e;exact e
 | cons o r ih =>
  intro st st' e
  simp only[runOps] at e ⊢
  rcases qk8 e with ⟨h1,e⟩|⟨h1,e⟩
  ·obtain⟨st1,h2,e⟩:=qa e
   rw[h1,qch hC h2];exact ih e
  ·rw[h1];exact ih e
theorem qis (hC:Cle C C') (ds:List Nat) (ops:List Oper):∀(r:List Oper) {st st':St},runD P hh C ds ops r st=some st'→runD P hh C' ds ops r st=some st':=by
 intro r
 induction r with
 | nil=>intro st st' e;exact e
 | cons o r ih =>
  intro st st' e
  simp only[runD] at e ⊢
  rcases qk8 e with ⟨h1,e⟩|⟨h1,e⟩
  ·obtain⟨st1,h2,e⟩:=qa e
   obtain⟨h3,e⟩:=qo e
   split at h2
   ·rename_i hp
    split at e
    ·rename_i hq
     rw[h1,if_pos hp,qch hC h2]
     simp only[sel,bnd,need]
     rw[if_pos h3,if_pos hq]
     exact ih e
    ·cases e
   ·cases h2
  ·rw[h1]
   split at e
   ·rename_i hq;simp only[sel,hq,if_true];exact ih e
   ·cases e
theorem qit (hC:Cle C C') {ops:List Oper} {draw:Bool} {st st':St} (e:regionA P hh C ops draw st=some st'):regionA P hh C' ops draw st=some st':=by
 unfold regionA at e ⊢
 split at e
 ·rename_i hd;rw[if_pos hd];exact qis hC _ _ _ e
 ·rename_i hd;rw[if_neg hd];exact qfg hC _ _ e
theorem qet {α:Type} {c:Option AV} {x y:Option α} {r:α} (h:condE c x y=some r):(c=some (.bool true)∧x=some r)∨(c=some (.bool false)∧y=some r):=by
 unfold condE at h
 split at h
 ·exact .inl ⟨rfl,h⟩
 ·exact .inr ⟨rfl,h⟩
 ·cases h
theorem qal (hC:Cle C C') (m:Nat) (c:Code) (st:St):∀{m':Nat} {r:Ex×St},m≤m'→exec P hh C m c st=some r→exec P hh C' m' c st=some r:=by
 induction m,c,st using exec.induct (h:=hh) with
 | case1 m st=>intro m' r hm e;rw[exec] at e ⊢;exact e
 | case2 m st=>intro m' r hm e;rw[exec] at e ⊢;exact e
 | case3 m id st=>intro m' r hm e;rw[exec] at e ⊢;exact e
 | case4 m id ops draw st =>
  intro m' r hm e;rw[exec] at e ⊢
  obtain⟨st1,h1,e⟩:=qa e
  rw[qit hC h1];exact e
 | case5 m x y st ih1 ih2 =>
  intro m' r hm e;rw[exec] at e ⊢
  rcases thenE_eq e with ⟨st1,h1,h2⟩|⟨h1,hn⟩
  ·rw[ih1 hm h1];exact ih2 st1 hm h2
  ·rw[ih1 hm h1];rw[h1] at e;exact (by obtain⟨x,s⟩:=r;cases x<;>first|rfl|exact absurd rfl hn)
 | case6 m c x y st ih1 ih2 =>
  intro m' r hm e;rw[exec] at e ⊢
  rcases qet e with ⟨h1,h2⟩|⟨h1,h2⟩
  ·rw[h1];exact ih1 hm h2
  ·rw[h1];exact ih2 hm h2
 | case7 m id c st ih =>
  intro m' r hm e;rw[exec] at e ⊢
  cases hx:exec P hh C m c st with
  | none=>rw[hx] at e;cases e
  | some x=>rw[hx] at e;rw[ih hm hx];exact e
 | case8 c st=>intro m' r hm e;rw[exec] at e;cases e
 | case9 m c st ih1 ih2 =>
  intro m' r hm e
  obtain⟨m',rfl⟩:∃k,m'=k+1:=⟨m'-1,by omega⟩
  rw[exec] at e ⊢
  rcases thenE_eq e with ⟨st1,h1,h2⟩|⟨h1,hn⟩
  ·rw[ih1 (by omega) h1];exact ih2 st1 (by omega) h2
  ·rw[ih1 (by omega) h1];exact (by obtain⟨x,s⟩:=r;cases x<;>first|rfl|exact absurd rfl hn)
 | case10 m c st h1 h2 h3 h4 h5 h6 h7 h8 h9=>intro m' r hm e;cases c<;>cases m<;>first|(simp[exec] at e;done)|(simp_all;done)
open Classical in
noncomputable def lim {α:Type} (g:Nat→Option α):Option α:=if h:∃r n,g n=some r then some h.choose else none
theorem qno {α:Type} {g:Nat→Option α} (hg:∀n m r,n≤m→g n=some r→g m=some r) (r:α):lim g=some r↔∃n,g n=some r:=by
 unfold lim
 constructor
 ·intro h
  split at h
  ·rename_i hx
   injection h with h
   rw[← h];exact hx.choose_spec
  ·cases h
 ·rintro⟨n,hn⟩
  have hx:∃r n,g n=some r:=⟨r,n,hn⟩
  rw[dif_pos hx]
  obtain⟨k,hk⟩:=hx.choose_spec
  have h1:=hg k (max k n) _ (by omega) hk
  have h2:=hg n (max k n) _ (by omega) hn
  rw[h1] at h2
  exact h2
noncomputable def EXEC (P:Program) (h:Hint) (C:Oracle) (c:Code) (st:St):Option (Ex×St):=lim fun m=>exec P h C m c st
theorem qq {c:Code} {st:St} (r:Ex×St):EXEC P hh C c st=some r↔∃m,exec P hh C m c st=some r :=
 qno (fun n m r hn e=>qal (fun _ _ _ _ h=>h) n c st hn e) r
theorem qdq {α:Type} {x y:Option α} (h:∀r,x=some r↔y=some r):x=y:=by
 cases x with
 | some r=>exact ((h r).1 rfl).symm
 | none=>cases y with
  | none=>rfl
  | some r=>exact (h r).2 rfl
theorem qnp (st:St):EXEC P hh C .skip st=some (.normal,st):=(qq _).2 ⟨0,by rw[exec]⟩
theorem qra (st:St):EXEC P hh C .ret st=some (.ret,st):=(qq _).2 ⟨0,by rw[exec]⟩
theorem qnq (id:Nat) (st:St):EXEC P hh C (.exit id) st=some (.exit id,st):=(qq _).2 ⟨0,by rw[exec]⟩
theorem qjw (id:Nat) (ops:Array Oper) (draw:Bool) (st:St) :
  EXEC P hh C (.region id ops draw) st=bnd (regionA P hh C ops.toList draw (clean0 hh st)) fun st=>some (.normal,clean1 hh st) :=
 qdq fun r=>by
  rw[qq]
  exact⟨fun ⟨m,e⟩=>by rwa [exec] at e,fun e=>⟨0,by rwa [exec]⟩⟩
theorem thenE_mk {x:Option (Ex×St)} {k:St→Option (Ex×St)} {r:Ex×St} (h:(∃st,x=some (.normal,st)∧k st=some r)∨(x=some r∧r.1≠.normal)):thenE x k=some r:=by
 rcases h with ⟨st,rfl,h⟩|⟨rfl,hn⟩
 ·exact h
 ·obtain⟨x,s⟩:=r;cases x<;>first|rfl|exact absurd rfl hn
theorem qrb (a b:Code) (st:St):EXEC P hh C (.seq a b) st=thenE (EXEC P hh C a st) (EXEC P hh C b) :=
 qdq fun r=>by
  rw[qq]
  constructor
  ·rintro⟨m,e⟩
   rw[exec] at e
   rcases thenE_eq e with ⟨st1,h1,h2⟩|⟨h1,hn⟩
   ·exact thenE_mk (.inl ⟨st1,(qq _).2 ⟨m,h1⟩,(qq _).2 ⟨m,h2⟩⟩)
   ·exact thenE_mk (.inr ⟨(qq _).2 ⟨m,h1⟩,hn⟩)
  ·intro e
   rcases thenE_eq e with ⟨st1,h1,h2⟩|⟨h1,hn⟩
   ·obtain⟨m,h1⟩:=(qq _).1 h1
    obtain⟨n,h2⟩:=(qq _).1 h2
    refine⟨max m n,?_⟩
    rw[exec]
    exact thenE_mk (.inl ⟨st1,qal (fun _ _ _ _ h=>h) _ _ _ (by omega) h1,qal (fun _ _ _ _ h=>h) _ _ _ (by omega) h2⟩)
   ·obtain⟨m,h1⟩:=(qq _).1 h1
    exact⟨m,by rw[exec];exact thenE_mk (.inr ⟨h1,hn⟩)⟩
theorem qnr (c:Operand) (x y:Code) (st:St):EXEC P hh C (.cond c x y) st=condE (aeval st c) (EXEC P hh C x st) (EXEC P hh C y st) :=
 qdq fun r=>by
  rw[qq]
  constructor
  ·rintro⟨m,e⟩
   rw[exec] at e
   rcases qet e with ⟨h1,h2⟩|⟨h1,h2⟩
   ·rw[h1];exact (qq _).2 ⟨m,h2⟩
   ·rw[h1];exact (qq _).2 ⟨m,h2⟩
  ·intro e
   rcases qet e with ⟨h1,h2⟩|⟨h1,h2⟩
   ·obtain⟨m,h2⟩:=(qq _).1 h2;exact⟨m,by rw[exec,h1];exact h2⟩
   ·obtain⟨m,h2⟩:=(qq _).1 h2;exact⟨m,by rw[exec,h1];exact h2⟩
theorem ql8 (id:Nat) (c:Code) (st:St):EXEC P hh C (.block id c) st=blkE id (EXEC P hh C c st) :=
 qdq fun r=>by
  rw[qq]
  constructor
  ·rintro⟨m,e⟩
   rw[exec] at e
   cases hx:exec P hh C m c st with
   | none=>rw[hx] at e;cases e
   | some x=>rw[(qq x).2 ⟨m,hx⟩,← hx];exact e
  ·intro e
   cases hx:EXEC P hh C c st with
   | none=>rw[hx] at e;cases e
   | some x=>obtain⟨m,h1⟩:=(qq x).1 hx;exact⟨m,by rw[exec,h1,← hx];exact e⟩
theorem qns (c:Code) (st:St):EXEC P hh C (.loop c) st=thenE (EXEC P hh C c (head hh (rid c) st)) (EXEC P hh C (.loop c)) :=
 qdq fun r=>by
  rw[qq]
  constructor
  ·rintro⟨m,e⟩
   cases m with
   | zero=>rw[exec] at e;cases e
   | succ m =>
    rw[exec] at e
    rcases thenE_eq e with ⟨st1,h1,h2⟩|⟨h1,hn⟩
    ·exact thenE_mk (.inl ⟨st1,(qq _).2 ⟨m,h1⟩,(qq _).2 ⟨m,h2⟩⟩)
    ·exact thenE_mk (.inr ⟨(qq _).2 ⟨m,h1⟩,hn⟩)
  ·intro e
   rcases thenE_eq e with ⟨st1,h1,h2⟩|⟨h1,hn⟩
   ·obtain⟨m,h1⟩:=(qq _).1 h1
    obtain⟨n,h2⟩:=(qq _).1 h2
    refine⟨max m n+1,?_⟩
    rw[exec]
    exact thenE_mk (.inl ⟨st1,qal (fun _ _ _ _ h=>h) _ _ _ (by omega) h1,qal (fun _ _ _ _ h=>h) _ _ _ (by omega) h2⟩)
   ·obtain⟨m,h1⟩:=(qq _).1 h1
    exact⟨m+1,by rw[exec];exact thenE_mk (.inr ⟨h1,hn⟩)⟩
variable {H:FuncId→Hint} {T:Table}
theorem qrc:∀n,Cle (ev P H T n) (ev P H T (n+1)):=by
 intro n
 induction n with
 | zero=>intro f as s r e;cases e
 | succ n ih =>
  intro f as s r e
  rw[ev] at e ⊢
  split at e
  ·exact e
  split at e
  ·rename_i h9
   cases e
  ·rename_i h9
   rw[if_neg h9]
   obtain⟨fn,hf,e⟩:=qa e
   obtain⟨c,hc,e⟩:=qa e
   simp only[hf,hc,bnd]
   split at e
   ·rename_i hok
    rw[if_pos hok]
    obtain⟨x,st,hx,hxe,ho⟩:=finE_eq e
    rw[qal ih n c _ (Nat.le_succ n) hx]
    rcases hxe with rfl|rfl<;>exact ho
   ·cases e
theorem qb4 {n m : Nat} (h : n ≤ m) : Cle (ev P H T n) (ev P H T m) := by
  induction m with
  | zero => obtain rfl : n = 0 := by omega
            exact fun _ _ _ _ h => h
  | succ m ih =>
    by_cases hn : n = m + 1
    · subst hn; exact fun _ _ _ _ h => h
    · exact fun f as s r e => qrc m f as s r (ih (by omega) f as s r e)
noncomputable def EV (P:Program) (H:FuncId→Hint) (T:Table):Oracle:=fun f as s=>lim fun n=>ev P H T n f as s
theorem qdx {f:FuncId} {as:List AV} {s:List (List AV)} (r:AV×List (List AV)):EV P H T f as s=some r↔∃n,ev P H T n f as s=some r :=
 qno (fun n m r hn e=>qb4 hn f as s r e) r
theorem EV_le (n:Nat):Cle (ev P H T n) (EV P H T):=fun f as s r e=>(qdx r).2 ⟨n,e⟩
theorem qfh {o:Oper} {st st':St} (e:stepOp P hh (EV P H T) o st=some st'):∃n,stepOp P hh (ev P H T n) o st=some st':=by
 obtain⟨d,op,t,pos,af,g⟩:=o
 cases op with
 | call c =>
  obtain⟨callee,xs,ts⟩:=c
  cases callee with
  | value f =>
   simp only[stepOp] at e ⊢
   obtain⟨p,hp,e⟩:=qa e
   split at hp
   ·rename_i hm;refine⟨0,?_⟩;rw[if_pos hm,hp];exact e
   ·rename_i hm
    simp only[if_neg hm]
    simp only[opVal,callA] at hp ⊢
    obtain⟨gv,hg,hp⟩:=qa hp
    rw[hg]
    simp only[bnd]
    split at hp
    ·split at hp
     ·rename_i hlt
      obtain⟨us,hu,hp⟩:=qa hp
      obtain⟨vs,hv,hp⟩:=qa hp
      obtain⟨q,hq,hp⟩:=qa hp
      obtain⟨r,hr,hp⟩:=qa hp
      obtain⟨n,hr⟩:=(qdx _).1 hr
      refine⟨n,?_⟩
      rw[if_pos hlt]
      simp only[hu,hv,hq,bnd,hr]
      injection hp with hp;subst hp
      exact e
     ·cases hp
    ·split at hp
     ·rename_i hlt
      obtain⟨us,hu,hp⟩:=qa hp
      obtain⟨vs,hv,hp⟩:=qa hp
      obtain⟨r,hr,hp⟩:=qa hp
      obtain⟨n,hr⟩:=(qdx _).1 hr
      refine⟨n,?_⟩
      rw[if_pos hlt]
      simp only[hu,hv,bnd,hr]
      injection hp with hp;subst hp
      exact e
     ·cases hp
    ·cases hp
  | invoke rv m =>
   simp only[stepOp] at e ⊢
   obtain⟨p,hp,e⟩:=qa e
   split at hp
   ·rename_i hm;refine⟨0,?_⟩;rw[if_pos hm,hp];exact e
   ·rename_i hm
    simp only[if_neg hm]
    simp only[opVal,callA] at hp ⊢
    obtain⟨gv,hg,hp⟩:=qa hp
    rw[hg]
    simp only[bnd]
    split at hp
    ·obtain⟨gf,hi,hp⟩:=qa hp
     split at hp
     ·rename_i hlt
      obtain⟨hme,hp⟩:=qo hp
      obtain⟨us,hu,hp⟩:=qa hp
      obtain⟨vs,hv,hp⟩:=qa hp
      obtain⟨r,hr,hp⟩:=qa hp
      obtain⟨n,hr⟩:=(qdx _).1 hr
      refine⟨n,?_⟩
      simp only[hi,if_pos hlt,need,if_pos hme,hu,hv,bnd,hr]
      injection hp with hp;subst hp
      exact e
     ·cases hp
    ·cases hp
  | builtin b=>cases b<;>exact⟨0,e⟩
 | makeFunc fn x y=>cases fn<;>exact⟨0,e⟩
 | _=>exact⟨0,e⟩
theorem qjx (ops:List Oper):∀(r:List Oper) {st st':St},runOps P hh (EV P H T) ops r st=some st'→∃n,runOps P hh (ev P H T n) ops r st=some st':=by
 intro r
 induction r with
 | nil=>intro st st' e;exact⟨0,e⟩
 | cons o r ih =>
  intro st st' e
  simp only[runOps] at e
  rcases qk8 e with ⟨h1,e⟩|⟨h1,e⟩
  ·obtain⟨st1,h2,e⟩:=qa e
   obtain⟨n,h2⟩:=qfh h2
   obtain⟨m,e⟩:=ih e
   refine⟨max n m,?_⟩
   simp only[runOps]
   rw[h1,qch (qb4 (by omega)) h2]
   exact qfg (qb4 (by omega)) _ _ e
  ·obtain⟨m,e⟩:=ih e
   exact⟨m,by simp only[runOps];rw[h1];exact e⟩
theorem qnt (ds:List Nat) (ops:List Oper):∀(r:List Oper) {st st':St},runD P hh (EV P H T) ds ops r st=some st'→∃n,runD P hh (ev P H T n) ds ops r st=some st':=by
 intro r
 induction r with
 | nil=>intro st st' e;exact⟨0,e⟩
 | cons o r ih =>
  intro st st' e
  simp only[runD] at e
  rcases qk8 e with ⟨h1,e⟩|⟨h1,e⟩
  ·obtain⟨st1,h2,e⟩:=qa e
   obtain⟨h3,e⟩:=qo e
   split at h2
   ·rename_i hp
    split at e
    ·rename_i hq
     obtain⟨n,h2⟩:=qfh h2
     obtain⟨m,e⟩:=ih e
     refine⟨max n m,?_⟩
     simp only[runD]
     rw[h1,if_pos hp,qch (qb4 (by omega)) h2]
     simp only[sel,bnd,need]
     rw[if_pos h3,if_pos hq]
     exact qis (qb4 (by omega)) _ _ _ e
    ·cases e
   ·cases h2
  ·split at e
   ·rename_i hq
    obtain⟨m,e⟩:=ih e
    exact⟨m,by simp only[runD];rw[h1];simp only[sel,hq,if_true];exact e⟩
   ·cases e
theorem qiu {ops:List Oper} {draw:Bool} {st st':St} (e:regionA P hh (EV P H T) ops draw st=some st'):∃n,regionA P hh (ev P H T n) ops draw st=some st':=by
 unfold regionA at e ⊢
 cases draw with
 | true=>exact qnt _ _ _ e
 | false=>exact qjx _ _ e
theorem qnu (m:Nat) (c:Code) (st:St):∀{r:Ex×St},exec P hh (EV P H T) m c st=some r→∃n,exec P hh (ev P H T n) m c st=some r:=by
 induction m,c,st using exec.induct (h:=hh) with
 | case1 m st=>intro r e;exact⟨0,by rw[exec] at e ⊢;exact e⟩
 | case2 m st=>intro r e;exact⟨0,by rw[exec] at e ⊢;exact e⟩
 | case3 m id st=>intro r e;exact⟨0,by rw[exec] at e ⊢;exact e⟩
 | case4 m id ops draw st =>
  intro r e;rw[exec] at e
  obtain⟨st1,h1,e⟩:=qa e
  obtain⟨n,h1⟩:=qiu h1
  exact⟨n,by rw[exec,h1];exact e⟩
 | case5 m x y st ih1 ih2 =>
  intro r e;rw[exec] at e
  rcases thenE_eq e with ⟨st1,h1,h2⟩|⟨h1,hn⟩
  ·obtain⟨n,h1⟩:=ih1 h1
   obtain⟨k,h2⟩:=ih2 st1 h2
   exact⟨max n k,by rw[exec];exact thenE_mk (.inl ⟨st1,qal (qb4 (by omega)) _ _ _ (Nat.le_refl _) h1,qal (qb4 (by omega)) _ _ _ (Nat.le_refl _) h2⟩)⟩
  ·obtain⟨n,h1⟩:=ih1 h1
   exact⟨n,by rw[exec];exact thenE_mk (.inr ⟨h1,hn⟩)⟩
 | case6 m c x y st ih1 ih2 =>
  intro r e;rw[exec] at e
  rcases qet e with ⟨h1,h2⟩|⟨h1,h2⟩
  ·obtain⟨n,h2⟩:=ih1 h2;exact⟨n,by rw[exec,h1];exact h2⟩
  ·obtain⟨n,h2⟩:=ih2 h2;exact⟨n,by rw[exec,h1];exact h2⟩
 | case7 m id c st ih =>
  intro r e;rw[exec] at e
  cases hx:exec P hh (EV P H T) m c st with
  | none=>rw[hx] at e;cases e
  | some x=>obtain⟨n,h1⟩:=ih hx;exact⟨n,by rw[exec,h1,← hx];exact e⟩
 | case8 c st=>intro r e;rw[exec] at e;cases e
 | case9 m c st ih1 ih2 =>
  intro r e;rw[exec] at e
  rcases thenE_eq e with ⟨st1,h1,h2⟩|⟨h1,hn⟩
  ·obtain⟨n,h1⟩:=ih1 h1
   obtain⟨k,h2⟩:=ih2 st1 h2
   exact⟨max n k,by rw[exec];exact thenE_mk (.inl ⟨st1,qal (qb4 (by omega)) _ _ _ (Nat.le_refl _) h1,qal (qb4 (by omega)) _ _ _ (Nat.le_refl _) h2⟩)⟩
  ·obtain⟨n,h1⟩:=ih1 h1
   exact⟨n,by rw[exec];exact thenE_mk (.inr ⟨h1,hn⟩)⟩
 | case10 m c st h1 h2 h3 h4 h5 h6 h7 h8 h9=>intro r e;cases c<;>cases m<;>first|(simp[exec] at e;done)|(simp_all;done)
noncomputable def body (P:Program) (H:FuncId→Hint) (C:Oracle) (fn:Func) (f:FuncId) (as:List AV) (s:List (List AV)):Option (AV×List (List AV)) :=
 bnd fn.body fun c=>if as.length≤fn.ntmps∧codeOk (H f) fn.ntmps c=true∧(fn.name== "runtime.NumGoroutine")=false then finE P (H f) s fn (EXEC P (H f) C c ⟨params 0 as,[],s⟩) else none
theorem qud {f:FuncId} {fn:Func} (hT:T f=none) (h9:f<900000) (hf:P.funcs[AI.base f]? = some fn) (as:List AV) (s:List (List AV)):EV P H T f as s=body P H (EV P H T) fn f as s :=
 qdq fun r=>by
  rw[qdx]
  unfold body
  constructor
  ·rintro⟨n,e⟩
   cases n with
   | zero=>cases e
   | succ n =>
    rw[ev,hT] at e
    simp only[if_neg (Nat.not_le.2 h9)] at e
    simp only[hf,bnd] at e
    obtain⟨c,hc,e⟩:=qa (x:=fn.body) e
    rw[hc]
    simp only[bnd]
    split at e
    ·rename_i hok
     rw[if_pos hok]
     obtain⟨x,st,hx,hxe,ho⟩:=finE_eq e
     rw[(qq (x,st)).2 ⟨n,qal (EV_le n) n c _ (Nat.le_refl n) hx⟩]
     rcases hxe with rfl|rfl<;>exact ho
    ·cases e
  ·intro e
   obtain⟨c,hc,e⟩:=qa e
   split at e
   ·rename_i hok
    obtain⟨x,st,hx,hxe,ho⟩:=finE_eq e
    obtain⟨m,hx⟩:=(qq _).1 hx
    obtain⟨n,hx⟩:=qnu _ _ _ hx
    refine⟨max m n+1,?_⟩
    rw[ev,hT]
    simp only[if_neg (Nat.not_le.2 h9)]
    simp only[hf,hc,bnd]
    rw[if_pos hok,qal (qb4 (by omega)) _ _ _ (by omega:m≤max m n) hx]
    rcases hxe with rfl|rfl<;>exact ho
   ·cases e
theorem qao {f:FuncId} {p} (hT:T f=some p) (as:List AV) (s:List (List AV)):EV P H T f as s=p as s :=
 qdq fun r=>by
  rw[qdx]
  constructor
  ·rintro⟨n,e⟩
   cases n with
   | zero=>cases e
   | succ n=>rw[ev,hT] at e;exact e
  ·intro e;exact⟨1,by rw[ev,hT];exact e⟩
theorem qhe {B:Nat} {W0:World} (hT:TableOk P B W0 T) (hD:∀n f,DrawOk P B W0 (H f) (ev P H T n)):OracleOk P B W0 (EV P H T):=by
 intro f as s r s' e
 obtain⟨n,e⟩:=(qdx _).1 e
 exact qq9 hT hD n f as s r s' e
end
end Go.AI
end
section
namespace Go.AI
set_option linter.unusedVariables false
section
variable {P:Program} {hh:Hint} {C:Oracle}
theorem qcv {st st2:St}:∀{l:List Operand},(∀x∈l,aeval st2 x=aeval st x)→aevals st2 l=aevals st l:=by
 intro l
 induction l with
 | nil=>intro _;rfl
 | cons x r ih=>intro h;simp only[aevals,h x (by simp),ih fun y hy=>h y (by simp[hy])]
theorem qhf {st st2:St}:∀{l:List (Nat×Operand)},(∀x∈l.map (·.2),aeval st2 x=aeval st x)→parts st2 l=parts st l:=by
 intro l
 induction l with
 | nil=>intro _;rfl
 | cons x r ih=>intro h;obtain⟨i,x⟩:=x;simp only[parts,h x (by simp),ih fun y hy=>h y (List.mem_cons_of_mem _ hy)]
theorem qfi {st st2:St} {x:Option Operand} (h:∀y,x=some y→aeval st2 y=aeval st y):aevalO st2 x=aevalO st x:=by
 cases x with
 | none=>rfl
 | some y=>simp only[aevalO,h y rfl]
theorem qnv {st st2:St} {b:Builtin} {c:Call} (h:∀x∈c.args.toList,aeval st2 x=aeval st x):builtP P b c st2=builtP P b c st:=by
 cases b with
 | len =>
  simp only[builtP]
  split
  ·rename_i x t hx ht
   rw[h x (by rw[hx];simp)]
  ·rfl
 | min =>
  simp only[builtP]
  split
  ·rename_i x y hx
   rw[h x (by rw[hx];simp),h y (by rw[hx];simp)]
  ·rfl
 | max =>
  simp only[builtP]
  split
  ·rename_i x y hx
   rw[h x (by rw[hx];simp),h y (by rw[hx];simp)]
  ·rename_i x y z q hx
   rw[h x (by rw[hx];simp),h y (by rw[hx];simp),h z (by rw[hx];simp),h q (by rw[hx];simp)]
  ·rfl
 | _=>rfl
def boxAt (st:St) (o:Oper):Option Nat :=
 match o.op with
 | .load _ a=>match aeval st a with
  | some (.lp d _)=>some d
  | _=>none
 | .store _ a _=>match aeval st a with
  | some (.lp d _)=>some d
  | _=>none
 | _=>none
theorem que {o:Oper} {st st2:St} (h:∀x∈o.op.operands,aeval st2 x=aeval st x) (hs:∀t x,o.op=.load t x→∀b i sh,aeval st x=some (.gp b i sh)→st2.s=st.s) (hb:∀d,boxAt st o=some d→look st2.l d=look st.l d):opPure P hh o st2=opPure P hh o st:=by
 obtain⟨d,op,T,pos,af,g⟩:=o
 cases op with
 | pick c a b =>
  simp only[Op.operands] at h
  simp only[opPure,h c (by simp)]
  cases aeval st c with
  | none=>rfl
  | some v =>
   cases v with
   | bool t=>simp only[bnd];cases t<;>simp[h a (by simp),h b (by simp)]
   | _=>rfl
 | build t ps=>simp only[Op.operands] at h;simp only[opPure,qhf (l:=ps.toList) (fun x hx=>h x (by simpa using hx))]
 | buildSlice t n ps=>simp only[Op.operands] at h;simp only[opPure,qhf (l:=ps.toList) (fun x hx=>h x (by simpa using hx))]
 | load t x =>
  simp only[Op.operands] at h
  simp only[opPure,h x (by simp)]
  cases hx:aeval st x with
  | none=>rfl
  | some v =>
   simp only[bnd]
   have:boxOf st2 v=boxOf st v:=by
    cases v with
    | lp d i=>simp only[boxOf,hb d (by simp only[boxAt,hx])]
    | gp b i sh=>simp only[boxOf,hs t x rfl b i sh hx]
    | _=>rfl
   rw[this]
 | nilCheck x=>simp only[Op.operands] at h;simp only[opPure,h x (by simp)]
 | binOp op t x y t'=>simp only[Op.operands] at h;simp only[opPure,h x (by simp),h y (by simp)]
 | unOp op t x=>simp only[Op.operands] at h;simp only[opPure,h x (by simp)]
 | convert s t x=>simp only[Op.operands] at h;simp only[opPure,h x (by simp)]
 | makeInterface t x=>simp only[Op.operands] at h;simp only[opPure,h x (by simp)]
 | makeFunc fn first cap =>
  simp only[Op.operands] at h
  cases fn with
  | func f=>simp only[opPure,qcv (l:=cap.toList) (fun x hx=>h x (by simp at hx;simp[hx])),qcv (l:=first.toList) (fun x hx=>h x (by simp at hx;simp[hx]))]
  | _=>rfl
 | makeSlice t x y=>simp only[Op.operands] at h;simp only[opPure,h x (by simp),h y (by simp)]
 | slice t x lo hi mx =>
  simp only[Op.operands] at h
  simp only[opPure,h x (by simp),qfi (x:=lo) (fun y hy=>h y (by simp[hy])),qfi (x:=hi) (fun y hy=>h y (by simp[hy])),qfi (x:=mx) (fun y hy=>h y (by simp[hy]))]
 | fieldAddr t x f=>simp only[Op.operands] at h;simp only[opPure,h x (by simp)]
 | field t x f=>simp only[Op.operands] at h;simp only[opPure,h x (by simp)]
 | indexAddr t x i=>simp only[Op.operands] at h;simp only[opPure,h x (by simp),h i (by simp)]
 | index t x i=>simp only[Op.operands] at h;simp only[opPure,h x (by simp),h i (by simp)]
 | lookup t x i ok =>
  cases ok with
  | true=>rfl
  | false=>simp only[Op.operands] at h;simp only[opPure,h x (by simp),h i (by simp)]
 | _=>rfl
structure Alike (ws:List Nat) (bw:Option Nat) (st1 st2 st2':St):Prop where
 t:∀x,look st2'.t x=if x∈ws then look st1.t x else look st2.t x
 l:∀d,look st2'.l d=if bw=some d then look st1.l d else look st2.l d
theorem Alike.same {st1 st2:St}:Alike [] none st1 st2 st2:=⟨fun x=>by simp,fun d=>by simp⟩
def tmpOf:Operand→List Nat
 | .tmp t=>[t]
 | _=>[]
theorem take_ag {st st2 st1:St} {x:Operand} {v:AV} (h:aeval st2 x=aeval st x) (e:takeOp st x=some (v,st1)) :
  ∃st2',takeOp st2 x=some (v,st2')∧Alike (tmpOf x) none st1 st2 st2'∧st2'.l=st2.l∧st1.s=st.s∧st1.l=st.l∧st2'.s=st2.s:=by
 cases x with
 | tmp t =>
  simp only[takeOp] at e ⊢
  obtain⟨u,hu,e⟩:=qa e
  simp only[Option.some.injEq,Prod.mk.injEq] at e
  obtain⟨rfl,rfl⟩:=e
  simp only[aeval] at h
  rw[h,hu]
  refine⟨_,rfl,⟨fun x=>?_,fun d=>by simp⟩,rfl,rfl,rfl,rfl⟩
  simp only[tmpOf,qu,List.mem_singleton]
  by_cases hx:x=t<;>simp[hx]
 | _ =>
  simp only[takeOp] at e ⊢
  obtain⟨u,hu,e⟩:=qa e
  simp only[Option.some.injEq,Prod.mk.injEq] at e
  obtain⟨rfl,rfl⟩:=e
  rw[h,hu]
  exact⟨_,rfl,Alike.same,rfl,rfl,rfl,rfl⟩
theorem qnw {st st2 st1:St} {x:Operand} {v:AV} {b:Bool} (h:aeval st2 x=aeval st x) (e:lend st x b=some (v,st1)) :
  ∃st2',lend st2 x b=some (v,st2')∧Alike (if b then (tmpOf x) else []) none st1 st2 st2'∧st1.s=st.s∧st1.l=st.l∧st2'.s=st2.s:=by
 unfold lend at e ⊢
 cases b with
 | true =>
  simp only[if_true] at e ⊢
  obtain⟨s,h1,h2,h3,h4,h5,h6⟩:=take_ag h e
  exact⟨s,h1,h2,h4,h5,h6⟩
 | false =>
  simp only[Bool.false_eq_true,if_false] at e ⊢
  obtain⟨u,hu,e⟩:=qa e
  simp only[Option.some.injEq,Prod.mk.injEq] at e
  obtain⟨rfl,rfl⟩:=e
  rw[h,hu]
  exact⟨_,rfl,Alike.same,rfl,rfl,rfl⟩
def mvT (xs:List Operand):Option Nat→List Nat
 | none=>[]
 | some i=>match xs[i]? with
  | some x=>tmpOf x
  | none=>[]
theorem tk_mv {d:Option Tmp} {f:Operand} {xs:Array Operand} {ts T pos af g}:(tkT hh ⟨d,.call ⟨.value f,xs,ts⟩,T,pos,af,g⟩).toList=mvT xs.toList (mvI hh d):=by
 simp only[tkT,mvT]
 cases mvI hh d with
 | none=>rfl
 | some i =>
  simp only
  cases hx:xs.toList[i]? with
  | none=>rfl
  | some x=>cases x<;>rfl
theorem qxk {st st2:St} {xs:List Operand} {i:Option Nat} {x:Nat} (h:∀x∈xs,aeval st2 x=aeval st x) (hx:x∈mvT xs i):look st2.t x=look st.t x:=by
 cases i with
 | none=>cases hx
 | some i =>
  simp only[mvT] at hx
  split at hx
  ·rename_i y hy
   cases y with
   | tmp t=>simp only[tmpOf,List.mem_singleton] at hx;subst hx;simpa[aeval] using h _ (List.mem_of_getElem? hy)
   | _=>cases hx
  ·cases hx
theorem qrd {st st2 st1:St} {xs:List Operand} {as bs:List AV} {i:Option Nat} (h:∀x∈xs,aeval st2 x=aeval st x) (e:moved st xs as i=some (bs,st1)) :
  ∃st2',moved st2 xs as i=some (bs,st2')∧Alike (mvT xs i) none st1 st2 st2'∧st1.s=st.s∧st1.l=st.l∧st2'.s=st2.s:=by
 cases i with
 | none =>
  simp only[moved,Option.some.injEq,Prod.mk.injEq] at e ⊢
  obtain⟨rfl,rfl⟩:=e
  exact⟨_,⟨rfl,rfl⟩,Alike.same,rfl,rfl,rfl⟩
 | some i =>
  simp only[moved] at e ⊢
  obtain⟨x,hx,e⟩:=qa e
  obtain⟨⟨v,s⟩,hv,e⟩:=qa e
  obtain⟨s2,h1,h2,h3,h4,h5,h6⟩:=take_ag (h x (List.mem_of_getElem? hx)) hv
  rw[hx]
  simp only[bnd,h1,mvT,hx]
  simp only at e
  split at e
  ·simp only[Option.some.injEq,Prod.mk.injEq] at e
   obtain⟨rfl,rfl⟩:=e
   exact⟨_,rfl,h2,h4,h5,h6⟩
  ·simp only[Option.some.injEq,Prod.mk.injEq] at e
   obtain⟨rfl,rfl⟩:=e
   refine⟨_,rfl,⟨fun y=>?_,fun d=>by simp⟩,rfl,rfl,rfl⟩
   split
   ·rename_i hy
    cases x with
    | tmp t =>
     simp only[tmpOf,List.mem_singleton] at hy;subst hy
     have:=h (.tmp y) (List.mem_of_getElem? hx)
     simpa[aeval] using this
    | _=>simp[tmpOf] at hy
   ·rfl
  ·cases e
def SRel (h:Hint) (o:Oper) (st st1 st2 st2':St):Prop:=(st1.s=st.s∧st2'.s=st2.s)∨(seesS h o=true∧st2'.s=st1.s)
theorem qnx {o:Oper} {st st1 st2:St} {v:AV} (h:∀x∈o.op.operands,aeval st2 x=aeval st x) (hs:seesS hh o=true→st2.s=st.s) (hg:∀t x,o.op=.load t x→∀b i sh,aeval st x=some (.gp b i sh)→st2.s=st.s) (hb:∀d,boxAt st o=some d→look st2.l d=look st.l d)
  (e:opVal P hh C o st=some (v,st1)) :
  ∃st2',opVal P hh C o st2=some (v,st2')∧Alike (tkT hh o).toList none st1 st2 st2'∧st1.l=st.l∧SRel hh o st st1 st2 st2':=by
 have pure:∀{o:Oper},(∀x∈o.op.operands,aeval st2 x=aeval st x)→(∀t x,o.op=.load t x→∀b i sh,aeval st x=some (.gp b i sh)→st2.s=st.s)→(∀d,boxAt st o=some d→look st2.l d=look st.l d)→tkT hh o=none →
   (bnd (opPure P hh o st) fun v=>some (v,st))=some (v,st1)→∃st2',(bnd (opPure P hh o st2) fun v=>some (v,st2))=some (v,st2')∧Alike (tkT hh o).toList none st1 st2 st2'∧st1.l=st.l∧SRel hh o st st1 st2 st2':=by
  intro o h hg hb ht e
  obtain⟨u,hu,e⟩:=qa e
  simp only[Option.some.injEq,Prod.mk.injEq] at e
  obtain⟨rfl,rfl⟩:=e
  rw[que h hg hb,hu,ht]
  exact⟨_,rfl,Alike.same,rfl,.inl ⟨rfl,rfl⟩⟩
 obtain⟨d,op,T,pos,af,g⟩:=o
 cases op with
 | assign x =>
  simp only[Op.operands] at h
  simp only[opVal] at e ⊢
  obtain⟨⟨u,s⟩,hu,e⟩:=qa e
  obtain⟨r,hr,e⟩:=qa e
  simp only[Option.some.injEq,Prod.mk.injEq] at e
  obtain⟨rfl,rfl⟩:=e
  obtain⟨s',h1,h2,h3,h4,h5,h6⟩:=take_ag (h x (by simp)) hu
  rw[h1]
  simp only[bnd]
  simp only at hr
  rw[hr]
  refine⟨_,rfl,?_,h5,.inl ⟨h4,h6⟩⟩
  cases x<;>exact h2
 | move x =>
  simp only[Op.operands] at h
  simp only[opVal] at e ⊢
  obtain⟨s',h1,h2,h4,h5,h6⟩:=qnw (h x (by simp)) e
  refine⟨s',h1,?_,h5,.inl ⟨h4,h6⟩⟩
  simp only[tkT]
  cases x with
  | tmp t=>simp only[tmpOf] at h2;cases hq:steals hh d<;>rw[hq] at h2<;>simpa using h2
  | _=>simp only[tmpOf,ite_self] at h2;exact h2
 | extract x i =>
  simp only[Op.operands] at h
  simp only[opVal] at e ⊢
  obtain⟨⟨u,s⟩,hu,e⟩:=qa e
  obtain⟨s',h1,h2,h4,h5,h6⟩:=qnw (h x (by simp)) hu
  simp only at e
  split at e
  ·obtain⟨r,hr,e⟩:=qa e
   split at e
   ·rename_i hp
    simp only[Option.some.injEq,Prod.mk.injEq] at e
    obtain⟨rfl,rfl⟩:=e
    rw[h1]
    simp only[bnd,hr,hp,if_true]
    refine⟨s',rfl,?_,h5,.inl ⟨h4,h6⟩⟩
    simp only[tkT]
    cases x with
    | tmp t=>simp only[tmpOf] at h2;cases hq:steals hh d<;>rw[hq] at h2<;>simpa using h2
    | _=>simp only[tmpOf,ite_self] at h2;exact h2
   ·cases e
  ·cases e
 | call c =>
  obtain⟨callee,xs,ts⟩:=c
  simp only[Op.operands,Call.operands] at h
  have ha:∀x∈xs.toList,aeval st2 x=aeval st x:=fun x hx=>h x (by simp at hx;simp[hx])
  cases callee with
  | value f =>
   simp only[opVal,callA] at e ⊢
   rw[h f (by simp)]
   obtain⟨gv,hg,e⟩:=qa e
   rw[hg]
   simp only[bnd]
   split at e
   ·split at e
    ·rename_i hlt
     obtain⟨us,hu,e⟩:=qa e
     obtain⟨vs,hv,e⟩:=qa e
     obtain⟨⟨q,s1⟩,hq,e⟩:=qa e
     obtain⟨⟨r,s'⟩,hr,e⟩:=qa e
     simp only[Option.some.injEq,Prod.mk.injEq] at e
     obtain⟨rfl,rfl⟩:=e
     have hs':st2.s=st.s:=hs rfl
     rw[if_pos hlt]
     obtain⟨s2,m1,m2,m3,m4,m5⟩:=qrd ha hq
     simp only at hr
     rw[m3] at hr
     simp only[qcv ha,hu,hv,m1,m5,hs',hr]
     refine⟨_,rfl,?_,m4,.inr ⟨rfl,rfl⟩⟩
     rw[tk_mv]
     exact⟨fun x=>m2.t x,fun d=>m2.l d⟩
    ·cases e
   ·split at e
    ·rename_i hlt
     obtain⟨us,hu,e⟩:=qa e
     obtain⟨vs,hv,e⟩:=qa e
     obtain⟨⟨r,s'⟩,hr,e⟩:=qa e
     simp only[Option.some.injEq,Prod.mk.injEq] at e
     obtain⟨rfl,rfl⟩:=e
     have hs':st2.s=st.s:=hs rfl
     rw[if_pos hlt]
     simp only[qcv ha,hu,hv,hs',hr]
     refine⟨_,rfl,⟨fun x=>?_,fun d=>by simp⟩,trivial,.inr ⟨rfl,rfl⟩⟩
     rw[tk_mv]
     split
     ·rename_i hx
      exact qxk ha hx
     ·rfl
    ·cases e
   ·cases e
  | invoke rv m =>
   simp only[opVal,callA] at e ⊢
   rw[h rv (by simp)]
   obtain⟨gv,hg,e⟩:=qa e
   rw[hg]
   simp only[bnd]
   split at e
   ·obtain⟨gf,hi,e⟩:=qa e
    split at e
    ·rename_i hlt
     obtain⟨hm,e⟩:=qo e
     obtain⟨us,hu,e⟩:=qa e
     obtain⟨vs,hv,e⟩:=qa e
     obtain⟨⟨r,s'⟩,hr,e⟩:=qa e
     simp only[Option.some.injEq,Prod.mk.injEq] at e
     obtain⟨rfl,rfl⟩:=e
     have hs':st2.s=st.s:=hs rfl
     simp only[hi,if_pos hlt,need,if_pos hm,qcv ha,hu,hv,hs',hr]
     exact⟨_,rfl,⟨fun x=>by simp[tkT],fun d=>by simp⟩,trivial,.inr ⟨rfl,rfl⟩⟩
    ·cases e
   ·cases e
  | builtin b =>
   cases b with
   | append =>
    simp only[opVal,callA] at e ⊢
    split at e
    ·rename_i x y t t' hx ht
     simp only[tkT,hx]
     unfold appendA at e ⊢
     obtain⟨el,hel,e⟩:=qa e
     obtain⟨sz,hsz,e⟩:=qa e
     obtain⟨by_,hby,e⟩:=qa e
     obtain⟨z,hz,e⟩:=qa e
     split at e
     ·cases e
     ·rename_i hok
      obtain⟨⟨u,s⟩,hu,e⟩:=qa e
      obtain⟨b,hbv,e⟩:=qa e
      obtain⟨ys,hys,e⟩:=qa e
      obtain⟨s',h1,h2,h3,h4,h5,h6⟩:=take_ag (ha x (by rw[hx];simp)) hu
      have hbv2:aeval s' y=some b:=by
       have hy:=ha y (by rw[hx];simp)
       cases y with
       | tmp t =>
        simp only[aeval] at hbv hy ⊢
        rw[h2.t]
        cases x with
        | tmp t' =>
         simp only[tmpOf,List.mem_singleton]
         split
         ·exact hbv
         ·rename_i hn
          simp only[takeOp] at hu
          obtain⟨q,hq,hu⟩:=qa hu
          simp only[Option.some.injEq,Prod.mk.injEq] at hu
          obtain⟨rfl,rfl⟩:=hu
          simp only[qu,if_neg hn] at hbv
          rw[hy];exact hbv
        | _ =>
         simp only[takeOp] at hu
         obtain⟨q,hq,hu⟩:=qa hu
         simp only[Option.some.injEq,Prod.mk.injEq] at hu
         obtain⟨rfl,rfl⟩:=hu
         simp only[tmpOf,List.not_mem_nil,if_false]
         rw[hy];exact hbv
       | _=>exact hbv
      simp only[hel,hsz,hby,hz,bnd,if_neg hok,h1,hbv2,hys]
      have fin:∀(q:Prop) (r:AV),need q (some (r,s))=some (v,st1)→∃st2',need q (some (r,s'))=some (v,st2')∧Alike (tkT hh ⟨d,.call ⟨.builtin .append,xs,ts⟩,T,pos,af,g⟩).toList none st1 st2 st2'∧st1.l=st.l∧SRel hh ⟨d,.call ⟨.builtin .append,xs,ts⟩,T,pos,af,g⟩ st st1 st2 st2':=by
       intro q r e
       obtain⟨h7,e⟩:=qo e
       simp only[Option.some.injEq,Prod.mk.injEq] at e
       obtain⟨rfl,rfl⟩:=e
       refine⟨s',by simp[need,h7],?_,h5,.inl ⟨h4,h6⟩⟩
       simp only[tkT,hx]
       cases x<;>exact h2
      simp only[tkT,hx] at fin
      simp only at e
      split at e
      ·exact fin _ _ e
      ·split at e
       ·rename_i hn;rw[if_pos hn];exact fin _ _ e
       ·cases e
      ·cases e
    ·cases e
   | _ =>
    simp only[opVal,callA] at e ⊢
    obtain⟨u,hu,e⟩:=qa e
    simp only[Option.some.injEq,Prod.mk.injEq] at e
    obtain⟨rfl,rfl⟩:=e
    rw[qnv (c:=⟨_,xs,ts⟩) ha,hu]
    exact⟨_,rfl,Alike.same,rfl,.inl ⟨rfl,rfl⟩⟩
 | makeFunc fn x y=>cases fn<;>exact pure h hg hb rfl e
 | box t x=>cases e
 | store t x y=>cases e
 | _=>exact pure h hg hb rfl e
theorem qny {st st2:St} {t:TypeId} {v:AV} (hs:st2.s=st.s):srcM P t st2 v=srcM P t st v:=by
 cases v<;>first|rfl|(simp only[srcM,hs])
theorem qre {o:Oper} {st st1 st2:St} {v:AV} (h:∀x∈o.op.operands,aeval st2 x=aeval st x) (hs:st2.s=st.s) (hse:seesS hh o=true)
  (e:msOp P hh o st=some (v,st1)) :
  ∃st2',msOp P hh o st2=some (v,st2')∧Alike (tkT hh o).toList none st1 st2 st2'∧st1.l=st.l∧SRel hh o st st1 st2 st2':=by
 obtain⟨d,op,T,pos,af,g⟩:=o
 have al:∀{s:List (List AV)} {ws:List Nat},ws=[]→Alike ws none {st with s:=s} st2 {st2 with s:=s}:=fun hw=>by subst hw;exact⟨fun x=>by simp,fun d=>by simp⟩
 cases op with
 | buildSlice t n ps =>
  simp only[Op.operands] at h
  simp only[msOp] at e ⊢
  rw[qhf (l:=ps.toList) (fun x hx=>h x (by simpa using hx)),hs]
  obtain⟨el,hel,e⟩:=qa e
  obtain⟨sz,hsz,e⟩:=qa e
  obtain⟨z,hz,e⟩:=qa e
  obtain⟨l,hl,e⟩:=qa e
  simp only[hel,hsz,hz,hl,bnd]
  split at e
  ·cases e
  ·rename_i hok
   rw[if_neg hok]
   obtain⟨els,hels,e⟩:=qa e
   simp only[Option.some.injEq,Prod.mk.injEq] at e
   obtain⟨rfl,rfl⟩:=e
   simp only[hels]
   exact⟨_,rfl,al rfl,(by first|trivial|rfl),.inr ⟨hse,rfl⟩⟩
 | makeSlice t l c =>
  simp only[Op.operands] at h
  simp only[msOp] at e ⊢
  rw[h l (by simp),h c (by simp),hs]
  obtain⟨el,hel,e⟩:=qa e
  obtain⟨sz,hsz,e⟩:=qa e
  obtain⟨by_,hby,e⟩:=qa e
  obtain⟨z,hz,e⟩:=qa e
  obtain⟨lv,hlv,e⟩:=qa e
  obtain⟨ln,hln,e⟩:=qa e
  obtain⟨cv,hcv,e⟩:=qa e
  obtain⟨cn,hcn,e⟩:=qa e
  simp only[hel,hsz,hby,hz,hlv,hln,hcv,hcn,bnd]
  split at e
  ·cases e
  ·rename_i hok
   rw[if_neg hok]
   obtain⟨hq,e⟩:=qo e
   simp only[Option.some.injEq,Prod.mk.injEq] at e
   obtain⟨rfl,rfl⟩:=e
   refine⟨_,by simp[need,hq],al rfl,(by first|trivial|rfl),.inr ⟨hse,rfl⟩⟩
 | convert src dst x =>
  simp only[Op.operands] at h
  simp only[msOp,msConv] at e ⊢
  rw[h x (by simp),hs]
  obtain⟨u,hu,e⟩:=qa e
  simp only[hu,bnd]
  split at e
  ·obtain⟨el,hel,e⟩:=qa e
   obtain⟨hq,e⟩:=qo e
   simp only[hel,need,hq]
   split at e
   ·rename_i hg
    simp only[Option.some.injEq,Prod.mk.injEq] at e
    obtain⟨rfl,rfl⟩:=e
    exact⟨_,by simp[hg,hq],al rfl,(by first|trivial|rfl),.inr ⟨hse,rfl⟩⟩
   ·rename_i hg
    simp only[Option.some.injEq,Prod.mk.injEq] at e
    obtain⟨rfl,rfl⟩:=e
    exact⟨_,by simp[hg,hq],Alike.same,(by first|trivial|rfl),.inr ⟨hse,hs⟩⟩
  ·obtain⟨el,hel,e⟩:=qa e
   obtain⟨hq,e⟩:=qo e
   obtain⟨cs,hcs,e⟩:=qa e
   obtain⟨els,hels,e⟩:=qa e
   obtain⟨l,hl,e⟩:=qa e
   simp only[Option.some.injEq,Prod.mk.injEq] at e
   obtain⟨rfl,rfl⟩:=e
   simp only[hel,hcs,hels,hl]
   exact⟨_,by unfold need;rw[if_pos hq],Alike.same,(by first|trivial|rfl),.inr ⟨hse,hs⟩⟩
  ·rename_i hn1 hn2
   obtain⟨r,hr,e⟩:=qa e
   simp only[Option.some.injEq,Prod.mk.injEq] at e
   obtain⟨rfl,rfl⟩:=e
   cases u with
   | str s=>exact absurd rfl (hn1 s)
   | ms ty sz b off n=>exact absurd rfl (hn2 ty sz b off n)
   | _=>exact⟨_,by simp only[hr],Alike.same,(by first|trivial|rfl),.inr ⟨hse,hs⟩⟩
 | load t x =>
  simp only[Op.operands] at h
  simp only[msOp,msLoad] at e ⊢
  split at e
  ·cases e
  rename_i hr
  rw[if_neg hr,h x (by simp),hs]
  obtain⟨p,hp,e⟩:=qa e
  simp only[hp,bnd]
  split at e
  ·obtain⟨ag,hg,e⟩:=qa e
   obtain⟨cs,hl,e⟩:=qa e
   obtain⟨v,hc,e⟩:=qa e
   simp only[hg,hl,hc]
   split at e
   ·cases e
   ·rename_i hga
    rw[if_neg hga]
    simp only[Option.some.injEq,Prod.mk.injEq] at e
    obtain⟨rfl,rfl⟩:=e
    exact⟨_,rfl,al rfl,(by first|trivial|rfl),.inr ⟨hse,rfl⟩⟩
  ·cases e
 | slice t x lo hi mx =>
  have hx:aeval st2 x=aeval st x:=h x (by simp[Op.operands])
  have ho:∀y:Option Operand,(∀z,y=some z→z∈(Op.slice t x lo hi mx).operands)→aevalO st2 y=aevalO st y:=by
   intro y hy
   cases y with
   | none=>rfl
   | some z=>simp only[aevalO];rw[h z (hy z rfl)]
  have hlo:=ho lo (fun z e=>by subst e;simp[Op.operands])
  have hhi:=ho hi (fun z e=>by subst e;simp[Op.operands])
  simp only[msOp,msSlice] at e ⊢
  rw[hx,hlo,hhi,hs]
  split at e
  ·cases e
  obtain⟨u,hu,e⟩:=qa e
  simp only[hu,bnd]
  split at e
  ·obtain⟨el,hel,e⟩:=qa e
   obtain⟨sz,hsz,e⟩:=qa e
   obtain⟨h',hh',e⟩:=qa e
   obtain⟨hn,hhn,e⟩:=qa e
   obtain⟨l',hl',e⟩:=qa e
   obtain⟨ln,hln,e⟩:=qa e
   obtain⟨cs,hcs,e⟩:=qa e
   simp only[hel,hsz,hh',hhn,hl',hln,hcs]
   split at e
   ·rename_i hq
    rw[if_pos hq]
    simp only[Option.some.injEq,Prod.mk.injEq] at e
    obtain⟨rfl,rfl⟩:=e
    exact⟨_,rfl,Alike.same,rfl,.inr ⟨hse,hs⟩⟩
   ·cases e
  ·cases e
 | call c =>
  obtain⟨callee,xs,ts⟩:=c
  simp only[Op.operands,Call.operands] at h
  have ha:∀x∈xs.toList,aeval st2 x=aeval st x:=fun x hx=>h x (by simp at hx;simp[hx])
  simp only[msOp] at e ⊢
  split at e
  ·rename_i x y t t' hx ht
   simp only[tkT,hx]
   unfold msAppend at e ⊢
   obtain⟨el,hel,e⟩:=qa e
   obtain⟨sz,hsz,e⟩:=qa e
   obtain⟨by_,hby,e⟩:=qa e
   obtain⟨z,hz,e⟩:=qa e
   split at e
   ·cases e
   ·rename_i hok
    obtain⟨⟨u,s⟩,hu,e⟩:=qa e
    obtain⟨b,hbv,e⟩:=qa e
    obtain⟨ys,hys,e⟩:=qa e
    obtain⟨s',h1,h2,h3,h4,h5,h6⟩:=take_ag (ha x (by rw[hx];simp)) hu
    have hss:s'.s=s.s:=by rw[h6,hs,h4]
    have hbv2:aeval s' y=some b:=by
     have hy:=ha y (by rw[hx];simp)
     cases y with
     | tmp t =>
      simp only[aeval] at hbv hy ⊢
      rw[h2.t]
      cases x with
      | tmp t' =>
       simp only[tmpOf,List.mem_singleton]
       split
       ·exact hbv
       ·rename_i hn
        simp only[takeOp] at hu
        obtain⟨q,hq,hu⟩:=qa hu
        simp only[Option.some.injEq,Prod.mk.injEq] at hu
        obtain⟨rfl,rfl⟩:=hu
        simp only[qu,if_neg hn] at hbv
        rw[hy];exact hbv
      | _ =>
       simp only[takeOp] at hu
       obtain⟨q,hq,hu⟩:=qa hu
       simp only[Option.some.injEq,Prod.mk.injEq] at hu
       obtain⟨rfl,rfl⟩:=hu
       simp only[tmpOf,List.not_mem_nil,if_false]
       rw[hy];exact hbv
     | _=>exact hbv
    simp only[hel,hsz,hby,hz,bnd,if_neg hok,h1,hbv2,qny hss,hys,hss]
    have fin1:∀(q:Prop) (r:AV) (ns:List (List AV)),need q (some (r,{s with s:=ns}))=some (v,st1)→∃st2',need q (some (r,{s' with s:=ns}))=some (v,st2')∧Alike (tkT hh ⟨d,.call ⟨.builtin .append,xs,ts⟩,T,pos,af,g⟩).toList none st1 st2 st2'∧st1.l=st.l∧SRel hh ⟨d,.call ⟨.builtin .append,xs,ts⟩,T,pos,af,g⟩ st st1 st2 st2':=by
     intro q r ns e
     obtain⟨h7,e⟩:=qo e
     simp only[Option.some.injEq,Prod.mk.injEq] at e
     obtain⟨rfl,rfl⟩:=e
     refine⟨{s' with s:=ns},by simp[need,h7],?_,h5,.inr ⟨hse,rfl⟩⟩
     have h8:Alike (tmpOf x) none {s with s:=ns} st2 {s' with s:=ns}:=⟨h2.t,h2.l⟩
     simp only[tkT,hx]
     cases x<;>exact h8
    have fin2:∀(q:Prop) (r:AV),need q (some (r,s))=some (v,st1)→∃st2',need q (some (r,s'))=some (v,st2')∧Alike (tkT hh ⟨d,.call ⟨.builtin .append,xs,ts⟩,T,pos,af,g⟩).toList none st1 st2 st2'∧st1.l=st.l∧SRel hh ⟨d,.call ⟨.builtin .append,xs,ts⟩,T,pos,af,g⟩ st st1 st2 st2':=by
     intro q r e
     obtain⟨h7,e⟩:=qo e
     simp only[Option.some.injEq,Prod.mk.injEq] at e
     obtain⟨rfl,rfl⟩:=e
     refine⟨s',by simp[need,h7],?_,h5,.inr ⟨hse,hss⟩⟩
     simp only[tkT,hx]
     cases x<;>exact h2
    simp only[tkT,hx] at fin1 fin2
    simp only at e
    split at e
    ·split at e
     ·rename_i hn
      rw[if_pos hn]
      obtain⟨cs,hcs,e⟩:=qa e
      simp only[hcs]
      exact fin1 _ _ _ e
     ·cases e
    ·split at e
     ·rename_i hg
      rw[if_pos hg]
      exact fin1 _ _ _ e
     ·rename_i hg
      rw[if_neg hg]
      exact fin2 _ _ e
    ·split at e
     ·rename_i hn
      rw[if_pos hn]
      split at e
      ·rename_i hg
       rw[if_pos hg]
       exact fin1 _ _ _ e
      ·rename_i hg
       rw[if_neg hg]
       exact fin2 _ _ e
     ·cases e
    ·cases e
  ·rename_i x y t t' hx ht
   unfold msCopy at e ⊢
   rw[ha x (by rw[hx];simp),ha y (by rw[hx];simp)]
   obtain⟨p,hp,e⟩:=qa e
   obtain⟨b,hb,e⟩:=qa e
   obtain⟨ys,hys,e⟩:=qa e
   simp only[hp,hb,qny hs,hys,bnd,hs]
   split at e
   ·split at e
    ·rename_i hq
     rw[if_pos hq]
     obtain⟨cs,hcs,e⟩:=qa e
     obtain⟨h7,e⟩:=qo e
     simp only[Option.some.injEq,Prod.mk.injEq] at e
     obtain⟨rfl,rfl⟩:=e
     simp only[hcs]
     exact⟨_,by simp only[need,h7];rfl,al rfl,(by first|trivial|rfl),.inr ⟨hse,rfl⟩⟩
    ·cases e
   ·cases e
  ·cases e
 | _=>cases e
theorem qk9 {d:Nat} {t:List (Nat×AV)} (h:noLp d t=true):dropLp d t=t:=by
 induction t with
 | nil=>rfl
 | cons p r ih =>
  obtain⟨j,u⟩:=p
  simp only[noLp] at h
  simp only[dropLp]
  split at h
  ·cases h
  ·rename_i hn;rw[if_neg hn,ih h]
theorem qnz {d:Nat} {t:List (Nat×AV)} (hn:(t.map (·.1)).Nodup) (h:∀i v,look t i=some v→isLp d v=false):noLp d t=true:=by
 induction t with
 | nil=>rfl
 | cons p r ih =>
  obtain⟨j,u⟩:=p
  simp only[List.map_cons,List.nodup_cons] at hn
  have h0:=h j u (by simp[look])
  simp only[noLp,h0,Bool.false_eq_true,if_false]
  refine ih hn.2 fun i v hv=>h i v ?_
  simp only[look]
  split
  ·rename_i hj;subst hj;exact absurd (qky hv) hn.1
  ·exact hv
structure Ahead (h:Hint) (o:Oper) (st st2:St):Prop where
 t:∀x∈o.op.operands,aeval st2 x=aeval st x
 s:seesS h o=true→st2.s=st.s
 b:∀d,boxR h o=some d∨boxW h o=some d→look st2.l d=look st.l d
 n:∀d,isAlloc o=true→o.dst=some d→noLp d st2.t=true
theorem qgx {o:Oper} {st st' st2:St} (hp:preD hh o st=true) (h:Ahead hh o st st2) (e:stepOp P hh C o st=some st') :
  ∃st2',stepOp P hh C o st2=some st2'∧Alike (wrT hh o) (boxW hh o) st' st2 st2'∧SRel hh o st st' st2 st2':=by
 have val:(isMs hh o.dst=true→seesS hh o=true∨∀s,msOp P hh o s=none)→(∀t x,o.op=.load t x→∀b i sh,aeval st x=some (.gp b i sh)→st2.s=st.s)→(∀d,boxAt st o=some d→look st2.l d=look st.l d)→boxW hh o=none→(bnd (if isMs hh o.dst then msOp P hh o st else opVal P hh C o st) fun p=>some (p.2.put o.dst p.1))=some st' →
   ∃st2',(bnd (if isMs hh o.dst then msOp P hh o st2 else opVal P hh C o st2) fun p=>some (p.2.put o.dst p.1))=some st2'∧Alike (wrT hh o) (boxW hh o) st' st2 st2'∧SRel hh o st st' st2 st2':=by
  intro hms hg hb hbw e
  obtain⟨⟨v,s⟩,hv,e⟩:=qa e
  injection e with e
  obtain⟨s',h1,h2,h3,h4⟩:∃st2',(if isMs hh o.dst then msOp P hh o st2 else opVal P hh C o st2)=some (v,st2')∧Alike (tkT hh o).toList none s st2 st2'∧s.l=st.l∧SRel hh o st s st2 st2':=by
   split at hv
   ·rename_i hm
    rw[if_pos hm]
    rcases hms hm with hq|hq
    ·exact qre h.t (h.s hq) hq hv
    ·rw[hq] at hv;cases hv
   ·rename_i hm
    rw[if_neg hm]
    exact qnx h.t h.s hg hb hv
  rw[h1]
  refine⟨_,rfl,⟨fun x=>?_,fun d=>?_⟩,?_⟩
  ·rw[← e]
   unfold wrT
   cases hd:o.dst with
   | none=>simp only[St.put,Option.toList_none,List.nil_append];exact h2.t x
   | some d =>
    simp only[St.put,qu,Option.toList_some,List.cons_append,List.nil_append,List.mem_cons]
    by_cases hx:x=d
    ·simp[hx]
    ·simp only[hx,if_false,false_or];exact h2.t x
  ·rw[hbw]
   have:=h2.l d
   simp only[reduceCtorEq,if_false] at this ⊢
   rw[← this]
   cases hd:o.dst<;>rfl
  ·have e1:st'.s=s.s:=by rw[← e];cases hd:o.dst<;>rfl
   have e2:(s'.put o.dst v).s=s'.s:=by cases hd:o.dst<;>rfl
   unfold SRel
   rw[e1,e2]
   exact h4
 have al:∀{ty:TypeId} {cs:List AV} {s s2:St} {ws:List Nat} {d:Option Nat},d=o.dst→isAlloc o=true→seesS hh o=true→boxW hh o=o.dst→s.l=st.l→s2.s=s.s→Alike ws none s st2 s2→(∀d,noLp d st2.t=true→noLp d s2.t=true)→(∀d,noLp d st.t=true→noLp d s.t=true) →
   (∀d,o.dst=some d→noLp d st.t=true) →
   newBox hh d ty cs s=some st'→∃st2',newBox hh d ty cs s2=some st2'∧Alike (o.dst.toList++ws) (boxW hh o) st' st2 st2'∧SRel hh o st st' st2 st2':=by
  intro ty cs s s2 ws d hd ha hse hbw hsl hss hal hn hn1 hn2 e
  subst hd
  rw[hbw]
  cases hd:o.dst with
  | none=>rw[hd] at e;cases e
  | some d =>
   rw[hd] at e
   simp only[newBox] at e ⊢
   split at e
   ·rename_i hm
    rw[if_pos hm]
    injection e with e
    refine⟨_,rfl,⟨fun x=>?_,fun d'=>?_⟩,.inr ⟨hse,?_⟩⟩
    ·rw[← e]
     simp only[qu,Option.toList_some,List.cons_append,List.nil_append,List.mem_cons]
     by_cases hx:x=d
     ·simp[hx,hss]
     ·simp only[hx,if_false,false_or];exact hal.t x
    ·rw[← e]
     have h1:=hal.l d'
     simp only[reduceCtorEq,if_false] at h1
     by_cases hx:d'=d
     ·subst hx
      simp only[if_true,h1,hsl]
      exact h.b d' (.inr (by rw[hbw,hd]))
     ·rw[if_neg (by simpa using fun e=>hx e.symm)]
      exact h1
    ·rw[← e];simp only[hss]
   ·rename_i hm
    rw[if_neg hm]
    injection e with e
    refine⟨_,rfl,⟨fun x=>?_,fun d'=>?_⟩,.inr ⟨hse,?_⟩⟩
    ·rw[← e]
     simp only[qu,Option.toList_some,List.cons_append,List.nil_append,List.mem_cons]
     rw[qk9 (hn d (h.n d ha hd)),qk9 (hn1 d (hn2 d hd))]
     by_cases hx:x=d
     ·simp[hx]
     ·simp only[hx,if_false,false_or];exact hal.t x
    ·rw[← e]
     simp only[qu]
     by_cases hx:d'=d
     ·subst hx;simp
     ·rw[if_neg hx,if_neg (by simpa using fun e=>hx e.symm)]
      have:=hal.l d'
      simpa using this
    ·rw[← e];exact hss
 have dems:∀{s s1:St} {x:Operand} {v:AV},takeOp s x=some (v,s1)→∀d,noLp d s.t=true→noLp d s1.t=true:=by
  intro s s1 x v e d hd
  cases x with
  | tmp t =>
   simp only[takeOp] at e
   obtain⟨u,hu,e⟩:=qa e
   simp only[Option.some.injEq,Prod.mk.injEq] at e
   obtain⟨rfl,rfl⟩:=e
   simp only
   have key:∀(l:List (Nat×AV)),look l t=some u→noLp d l=true→noLp d (ins l t (dem u))=true:=by
    intro l
    induction l with
    | nil=>intro e;cases e
    | cons p r ih =>
     obtain⟨j,w⟩:=p
     intro e hn
     simp only[look] at e
     simp only[noLp] at hn
     split at hn
     ·cases hn
     ·rename_i hw
      simp only[ins]
      split at e
      ·rename_i hj
       injection e with e;subst e
       rw[if_pos hj]
       simp only[noLp]
       have:isLp d (dem w)=false:=by cases w<;>first|rfl|simpa[isLp,dem] using hw
       simp[this,hn]
      ·rename_i hj
       rw[if_neg hj]
       simp only[noLp,if_neg hw]
       exact ih e hn
   exact key s.t hu hd
  | _ =>
   simp only[takeOp] at e
   obtain⟨u,hu,e⟩:=qa e
   simp only[Option.some.injEq,Prod.mk.injEq] at e
   obtain⟨rfl,rfl⟩:=e
   exact hd
 obtain⟨d,op,T,pos,af,g⟩:=o
 cases op with
 | alloc t =>
  simp only[stepOp] at e ⊢
  obtain⟨z,hz,e⟩:=qa e
  rw[hz]
  simp only[bnd]
  have h2:∀d',d=some d'→noLp d' st.t=true:=fun d' hd=>by subst hd;exact hp
  obtain⟨s',h1,h3,h4⟩:=al (ws:=[]) rfl rfl rfl rfl rfl (h.s rfl) Alike.same (fun _ h=>h) (fun _ h=>h) h2 e
  refine⟨s',h1,?_,h4⟩
  simpa[wrT,tkT,boxW] using h3
 | box t x =>
  have ht:=h.t
  simp only[Op.operands] at ht
  simp only[stepOp] at e ⊢
  obtain⟨⟨u,s⟩,hu,e⟩:=qa e
  obtain⟨s',h1,h2,h3,h4,h5,h8⟩:=take_ag (ht x (by simp)) hu
  rw[h1]
  simp only[bnd]
  simp only at e
  split at e
  ·rename_i hpp
   rw[if_pos hpp]
   obtain⟨v,hv,e⟩:=qa e
   rw[hv]
   simp only
   have hn2:∀d',d=some d'→noLp d' st.t=true:=fun d' hd=>by subst hd;exact hp
   obtain⟨s2,h6,h7,h9⟩:=al rfl rfl rfl rfl h5 (h8.trans ((h.s rfl).trans h4.symm)) h2 (dems h1) (dems hu) hn2 e
   refine⟨s2,h6,?_,h9⟩
   have:wrT hh ⟨d,.box t x,T,pos,af,g⟩=d.toList++tmpOf x:=by cases x<;>rfl
   rw[this];exact h7
  ·cases e
 | store t y x =>
  have ht:=h.t
  simp only[Op.operands] at ht
  cases d with
  | some _=>simp only[stepOp] at e;cases e
  | none =>
  simp only[stepOp] at e ⊢
  unfold storeA at e ⊢
  obtain⟨p,hpa,e⟩:=qa e
  obtain⟨⟨u,s⟩,hu,e⟩:=qa e
  obtain⟨s',h1,h2,h3,h4,h5,h8⟩:=take_ag (ht x (by simp)) hu
  have hwr:wrT hh ⟨none,.store t y x,T,pos,af,g⟩=tmpOf x:=by cases x<;>rfl
  rw[ht y (by simp),hpa]
  simp only[bnd,h1]
  simp only at e
  split at e
  ·rename_i hpu
   rw[if_pos hpu]
   obtain⟨sz,hsz,e⟩:=qa e
   obtain⟨v,hv,e⟩:=qa e
   obtain⟨⟨cs,off⟩,hbx,e⟩:=qa e
   simp only[hsz,hv]
   simp only at e
   split at e
   ·rename_i hc
    cases p with
    | lp dd i =>
     simp only[setBox] at e
     injection e with e
     simp only[preD,hpa,beq_iff_eq] at hp
     have hbw:boxW hh ⟨none,.store t y x,T,pos,af,g⟩=some dd:=hp
     have hl:look s'.l dd=look s.l dd:=by
      rw[h3,h5];exact h.b dd (.inr hbw)
     simp only[boxOf] at hbx ⊢
     rw[hl]
     obtain⟨cs0,hb0,hbx⟩:=qa hbx
     simp only[Option.some.injEq,Prod.mk.injEq] at hbx
     obtain⟨rfl,rfl⟩:=hbx
     rw[hb0]
     simp only[bnd,setBox]
     rw[if_pos hc]
     refine⟨_,rfl,⟨fun x=>?_,fun d'=>?_⟩,.inl ⟨by rw[← e];exact h4,h8⟩⟩
     ·rw[← e,hwr];exact h2.t x
     ·rw[← e,hbw]
      simp only[qu]
      by_cases hx:d'=dd
      ·subst hx;simp
      ·rw[if_neg hx,if_neg (by simpa using fun e=>hx e.symm)]
       have:=h2.l d'
       simpa using this
    | gp dd i sh =>
     simp only[setBox] at e
     injection e with e
     simp only[preD,hpa] at hp
     have hse:st2.s=st.s:=h.s hp
     have hbw:boxW hh ⟨none,.store t y x,T,pos,af,g⟩=none:=by
      have hn:(rootT hh y).isNone=true:=hp
      exact Option.isNone_iff_eq_none.1 hn
     simp only[boxOf] at hbx ⊢
     rw[h8,hse,← h4]
     obtain⟨cs0,hb0,hbx⟩:=qa hbx
     simp only[Option.some.injEq,Prod.mk.injEq] at hbx
     obtain⟨rfl,rfl⟩:=hbx
     rw[hb0]
     simp only[bnd,setBox]
     rw[if_pos hc]
     refine⟨_,rfl,⟨fun x=>?_,fun d'=>?_⟩,.inr ⟨hp,?_⟩⟩
     ·rw[← e,hwr];exact h2.t x
     ·rw[hbw]
      have:=h2.l d'
      simpa using this
     ·rw[← e];simp only[h8,hse,h4]
    | _=>cases e
   ·cases e
  ·cases e
 | load t x =>
  have hms:seesS hh ⟨d,.load t x,T,pos,af,g⟩=true∨∀s,msOp P hh ⟨d,.load t x,T,pos,af,g⟩ s=none:=by
   cases hr:rootT hh x with
   | none=>left;show (rootT hh x).isNone=true;rw[hr];rfl
   | some r=>right;intro s;simp[msOp,msLoad,hr]
  refine val (fun _=>hms) (fun t' x' hx b i sh hq=>h.s ?_) (fun d' hd=>h.b d' (.inl ?_)) rfl e
  ·injection hx with _ hx;subst hx
   simp only[preD,hq] at hp;exact hp
  simp only[boxAt] at hd
  simp only[preD] at hp
  split at hd
  ·rename_i q i hq
   rw[hq] at hp
   injection hd with hd;subst hd
   simpa using hp
  ·cases hd
 | call c =>
  refine val (fun hm=>.inl ?_) (fun t x hx=>by cases hx) (fun d' hd=>by cases hd) rfl e
  simp only[seesS]
  split
  ·rfl
  ·rfl
  ·exact hm
 | _=>exact val (fun hm=>.inl hm) (fun t x hx=>by cases hx) (fun d' hd=>by cases hd) rfl e
end
end Go.AI
end
section
namespace Go.AI
set_option linter.unusedVariables false
section
variable {P:Program} {hh:Hint} {C:Oracle}
def StepD (P:Program) (hh:Hint) (C:Oracle) (ds:List Nat) (ops:List Oper) (o:Oper) (st st':St):Prop :=
 (wantedA ops o.guard st=some true∧preD hh o st=true∧stepOp P hh C o st=some st'∧((allowS hh o=true∨st'.s=st.s)∧(adS hh o=true→st'.s.take st.s.length=st.s))∧postD hh ds o st'.t=true) ∨
 (wantedA ops o.guard st=some false∧st'=st.put o.dst (.tup [])∧okAll ds st.t (tkT hh o).toList=true)
theorem qgy {ds:List Nat} {ops:List Oper}:∀(r:List Oper) {st st':St},runD P hh C ds ops r st=some st' →
  ∃f:Nat→St,f 0=st∧f r.length=st'∧∀(i:Nat) (o:Oper),r[i]? = some o→StepD P hh C ds ops o (f i) (f (i+1)):=by
 intro r
 induction r with
 | nil=>intro st st' e;injection e with e;exact⟨fun _=>st,rfl,e,fun i o h=>by simp at h⟩
 | cons o r ih =>
  intro st st' e
  simp only[runD] at e
  have go:∀st1,StepD P hh C ds ops o st st1→runD P hh C ds ops r st1=some st'→∃f:Nat→St,f 0=st∧f (o::r).length=st'∧∀(i:Nat) (o':Oper),(o::r)[i]? = some o'→StepD P hh C ds ops o' (f i) (f (i+1)):=by
   intro st1 h1 e
   obtain⟨f,h2,h3,h4⟩:=ih e
   refine⟨fun i=>match i with|0=>st|i+1=>f i,rfl,h3,fun i o' ho=>?_⟩
   cases i with
   | zero=>simp at ho;subst ho;show StepD P hh C ds ops o st (f 0);rw[h2];exact h1
   | succ i=>simp at ho;exact h4 i o' ho
  unfold sel at e
  split at e
  ·rename_i hw
   obtain⟨st1,h2,e⟩:=qa e
   obtain⟨h3,e⟩:=qo e
   split at h2
   ·rename_i hp
    split at e
    ·rename_i hq;exact go st1 (.inl ⟨hw,hp,h2,h3,hq⟩) e
    ·cases e
   ·cases h2
  ·rename_i hw
   split at e
   ·rename_i hq;exact go _ (.inr ⟨hw,rfl,hq⟩) e
   ·cases e
  ·cases e
theorem qay {st st':St} {x:Operand} {v:AV} (h:(st.t.map (·.1)).Nodup) (e:takeOp st x=some (v,st')):(st'.t.map (·.1)).Nodup:=by
 cases x with
 | tmp t =>
  simp only[takeOp] at e
  obtain⟨u,hu,e⟩:=qa e
  simp only[Option.some.injEq,Prod.mk.injEq] at e
  obtain⟨rfl,rfl⟩:=e
  exact qbc _ _ _ h
 | _ =>
  simp only[takeOp] at e
  obtain⟨u,hu,e⟩:=qa e
  simp only[Option.some.injEq,Prod.mk.injEq] at e
  obtain⟨rfl,rfl⟩:=e
  exact h
theorem qjy {st st':St} {xs:List Operand} {as bs:List AV} {i:Option Nat} (h:(st.t.map (·.1)).Nodup) (e:moved st xs as i=some (bs,st')):(st'.t.map (·.1)).Nodup:=by
 cases i with
 | none=>simp only[moved,Option.some.injEq,Prod.mk.injEq] at e;obtain⟨rfl,rfl⟩:=e;exact h
 | some i =>
  simp only[moved] at e
  obtain⟨x,hx,e⟩:=qa e
  obtain⟨⟨v,s⟩,hv,e⟩:=qa e
  simp only at e
  split at e
  ·simp only[Option.some.injEq,Prod.mk.injEq] at e;obtain⟨rfl,rfl⟩:=e;exact qay h hv
  ·simp only[Option.some.injEq,Prod.mk.injEq] at e;obtain⟨rfl,rfl⟩:=e;exact h
  ·cases e
theorem qgz {st st':St} {x:Operand} {v:AV} {b:Bool} (h:(st.t.map (·.1)).Nodup) (e:lend st x b=some (v,st')):(st'.t.map (·.1)).Nodup:=by
 unfold lend at e
 split at e
 ·exact qay h e
 ·obtain⟨u,hu,e⟩:=qa e
  simp only[Option.some.injEq,Prod.mk.injEq] at e
  obtain⟨rfl,rfl⟩:=e
  exact h
theorem qiv {st:St} {d:Option Tmp} {v:AV} (h:(st.t.map (·.1)).Nodup):((st.put d v).t.map (·.1)).Nodup:=by
 cases d with
 | none=>exact h
 | some d=>exact qbc _ _ _ h
theorem qn0 {o:Oper} {st st':St} {v:AV} (h:(st.t.map (·.1)).Nodup) (e:opVal P hh C o st=some (v,st')):(st'.t.map (·.1)).Nodup:=by
 have pure:(bnd (opPure P hh o st) fun v=>some (v,st))=some (v,st')→(st'.t.map (·.1)).Nodup:=by
  intro e
  obtain⟨u,hu,e⟩:=qa e
  simp only[Option.some.injEq,Prod.mk.injEq] at e
  obtain⟨rfl,rfl⟩:=e
  exact h
 obtain⟨d,op,T,pos,af,g⟩:=o
 cases op with
 | assign x =>
  simp only[opVal] at e
  obtain⟨⟨u,s⟩,hu,e⟩:=qa e
  obtain⟨r,hr,e⟩:=qa e
  simp only[Option.some.injEq,Prod.mk.injEq] at e
  obtain⟨rfl,rfl⟩:=e
  exact qay h hu
 | move x=>exact qgz h e
 | extract x i =>
  simp only[opVal] at e
  obtain⟨⟨u,s⟩,hu,e⟩:=qa e
  simp only at e
  split at e
  ·obtain⟨r,hr,e⟩:=qa e
   split at e
   ·simp only[Option.some.injEq,Prod.mk.injEq] at e
    obtain⟨rfl,rfl⟩:=e
    exact qgz h hu
   ·cases e
  ·cases e
 | call c =>
  obtain⟨callee,xs,ts⟩:=c
  cases callee with
  | value f =>
   simp only[opVal,callA] at e
   obtain⟨gv,hg,e⟩:=qa e
   split at e
   ·split at e
    ·obtain⟨us,hu,e⟩:=qa e
     obtain⟨vs,hv,e⟩:=qa e
     obtain⟨⟨q,s⟩,hq,e⟩:=qa e
     obtain⟨r,hr,e⟩:=qa e
     simp only[Option.some.injEq,Prod.mk.injEq] at e
     obtain⟨rfl,rfl⟩:=e
     have:=qjy h hq
     exact this
    ·cases e
   ·split at e
    ·obtain⟨us,hu,e⟩:=qa e
     obtain⟨vs,hv,e⟩:=qa e
     obtain⟨r,hr,e⟩:=qa e
     simp only[Option.some.injEq,Prod.mk.injEq] at e
     obtain⟨rfl,rfl⟩:=e
     exact h
    ·cases e
   ·cases e
  | invoke rv m =>
   simp only[opVal,callA] at e
   obtain⟨gv,hg,e⟩:=qa e
   split at e
   ·obtain⟨gf,hi,e⟩:=qa e
    split at e
    ·obtain⟨hm,e⟩:=qo e
     obtain⟨us,hu,e⟩:=qa e
     obtain⟨vs,hv,e⟩:=qa e
     obtain⟨r,hr,e⟩:=qa e
     simp only[Option.some.injEq,Prod.mk.injEq] at e
     obtain⟨rfl,rfl⟩:=e
     exact h
    ·cases e
   ·cases e
  | builtin b =>
   cases b with
   | append =>
    simp only[opVal,callA] at e
    split at e
    ·unfold appendA at e
     obtain⟨el,hel,e⟩:=qa e
     obtain⟨sz,hsz,e⟩:=qa e
     obtain⟨by_,hby,e⟩:=qa e
     obtain⟨z,hz,e⟩:=qa e
     split at e
     ·cases e
     ·obtain⟨⟨u,s⟩,hu,e⟩:=qa e
      obtain⟨b,hbv,e⟩:=qa e
      obtain⟨ys,hys,e⟩:=qa e
      simp only at e
      split at e
      ·obtain⟨_,e⟩:=qo e
       simp only[Option.some.injEq,Prod.mk.injEq] at e
       obtain⟨rfl,rfl⟩:=e
       exact qay h hu
      ·split at e
       ·obtain⟨_,e⟩:=qo e
        simp only[Option.some.injEq,Prod.mk.injEq] at e
        obtain⟨rfl,rfl⟩:=e
        exact qay h hu
       ·cases e
      ·cases e
    ·cases e
   | _ =>
    simp only[opVal,callA] at e
    obtain⟨u,hu,e⟩:=qa e
    simp only[Option.some.injEq,Prod.mk.injEq] at e
    obtain⟨rfl,rfl⟩:=e
    exact h
 | _=>exact pure e
theorem qrf {o : Oper} {st st' : St} {v : AV} (h : (st.t.map (·.1)).Nodup) (e : msOp P hh o st = some (v, st')) : (st'.t.map (·.1)).Nodup := by
  obtain ⟨d, op, T, pos, af, g⟩ := o
  unfold msOp at e
  split at e
  · obtain ⟨el, hel, e⟩ := qa e
    obtain ⟨sz, hsz, e⟩ := qa e
    obtain ⟨z, hz, e⟩ := qa e
    obtain ⟨l, hl, e⟩ := qa e
    split at e
    · cases e
    · obtain ⟨els, hels, e⟩ := qa e
      simp only [Option.some.injEq, Prod.mk.injEq] at e
      obtain ⟨rfl, rfl⟩ := e
      exact h
  · obtain ⟨el, hel, e⟩ := qa e
    obtain ⟨sz, hsz, e⟩ := qa e
    obtain ⟨by_, hby, e⟩ := qa e
    obtain ⟨z, hz, e⟩ := qa e
    obtain ⟨lv, hlv, e⟩ := qa e
    obtain ⟨ln, hln, e⟩ := qa e
    obtain ⟨cv, hcv, e⟩ := qa e
    obtain ⟨cn, hcn, e⟩ := qa e
    split at e
    · cases e
    · obtain ⟨_, e⟩ := qo e
      simp only [Option.some.injEq, Prod.mk.injEq] at e
      obtain ⟨rfl, rfl⟩ := e
      exact h
  · unfold msConv at e
    obtain ⟨u, hu, e⟩ := qa e
    split at e
    · obtain ⟨el, hel, e⟩ := qa e
      obtain ⟨_, e⟩ := qo e
      split at e <;>
        (simp only [Option.some.injEq, Prod.mk.injEq] at e
         obtain ⟨rfl, rfl⟩ := e
         exact h)
    · obtain ⟨el, hel, e⟩ := qa e
      obtain ⟨_, e⟩ := qo e
      obtain ⟨cs, hcs, e⟩ := qa e
      obtain ⟨els, hels, e⟩ := qa e
      obtain ⟨l, hl, e⟩ := qa e
      simp only [Option.some.injEq, Prod.mk.injEq] at e
      obtain ⟨rfl, rfl⟩ := e
      exact h
    · obtain ⟨r, hr, e⟩ := qa e
      simp only [Option.some.injEq, Prod.mk.injEq] at e
      obtain ⟨rfl, rfl⟩ := e
      exact h
  · unfold msLoad at e
    split at e
    · cases e
    obtain ⟨p, hp, e⟩ := qa e
    split at e
    · obtain ⟨ag, hg, e⟩ := qa e
      obtain ⟨cs, hl, e⟩ := qa e
      obtain ⟨v, hc, e⟩ := qa e
      split at e
      · cases e
      · simp only [Option.some.injEq, Prod.mk.injEq] at e
        obtain ⟨rfl, rfl⟩ := e
        exact h
    · cases e
  · unfold msSlice at e
    split at e
    · cases e
    obtain ⟨u, hu, e⟩ := qa e
    split at e
    · obtain ⟨_, _, e⟩ := qa e
      obtain ⟨_, _, e⟩ := qa e
      obtain ⟨_, _, e⟩ := qa e
      obtain ⟨_, _, e⟩ := qa e
      obtain ⟨_, _, e⟩ := qa e
      obtain ⟨_, _, e⟩ := qa e
      obtain ⟨_, _, e⟩ := qa e
      split at e
      · simp only [Option.some.injEq, Prod.mk.injEq] at e
        obtain ⟨rfl, rfl⟩ := e
        exact h
      · cases e
    · cases e
  · split at e
    · unfold msAppend at e
      obtain ⟨el, hel, e⟩ := qa e
      obtain ⟨sz, hsz, e⟩ := qa e
      obtain ⟨by_, hby, e⟩ := qa e
      obtain ⟨z, hz, e⟩ := qa e
      split at e
      · cases e
      · obtain ⟨⟨u, s⟩, hu, e⟩ := qa e
        obtain ⟨b, hbv, e⟩ := qa e
        obtain ⟨ys, hys, e⟩ := qa e
        have h1 := qay h hu
        simp only at e
        split at e
        · split at e
          · obtain ⟨cs, hcs, e⟩ := qa e
            obtain ⟨_, e⟩ := qo e
            simp only [Option.some.injEq, Prod.mk.injEq] at e
            obtain ⟨rfl, rfl⟩ := e
            exact h1
          · cases e
        · split at e <;>
            (obtain ⟨_, e⟩ := qo e
             simp only [Option.some.injEq, Prod.mk.injEq] at e
             obtain ⟨rfl, rfl⟩ := e
             exact h1)
        · split at e
          · split at e <;>
              (obtain ⟨_, e⟩ := qo e
               simp only [Option.some.injEq, Prod.mk.injEq] at e
               obtain ⟨rfl, rfl⟩ := e
               exact h1)
          · cases e
        · cases e
    · unfold msCopy at e
      obtain ⟨p, hp, e⟩ := qa e
      obtain ⟨b, hb, e⟩ := qa e
      obtain ⟨ys, hys, e⟩ := qa e
      split at e
      · split at e
        · obtain ⟨cs, hcs, e⟩ := qa e
          obtain ⟨_, e⟩ := qo e
          simp only [Option.some.injEq, Prod.mk.injEq] at e
          obtain ⟨rfl, rfl⟩ := e
          exact h
        · cases e
      · cases e
    · cases e
  · cases e
theorem qiw {st st':St} {d:Option Tmp} {ty:TypeId} {cs:List AV} (h:(st.t.map (·.1)).Nodup) (e:newBox hh d ty cs st=some st'):(st'.t.map (·.1)).Nodup∧∃n,d=some n∧∃v,look st'.t n=some v∧∀d',isLp d' v=true→d'=n:=by
 cases d with
 | none=>cases e
 | some n =>
  simp only[newBox] at e
  split at e
  ·injection e with e;subst e
   exact⟨qbc _ _ _ h,n,rfl,_,by simp[qu];rfl,fun d' hd=>by cases hd⟩
  ·injection e with e;subst e
   exact⟨qbc _ _ _ ((qd6 _ _).nodup h),n,rfl,_,by simp[qu];rfl,fun d' hd=>by simp[isLp] at hd;exact hd.symm⟩
theorem qg0 {o:Oper} {st st':St} (h:(st.t.map (·.1)).Nodup) (e:stepOp P hh C o st=some st'):(st'.t.map (·.1)).Nodup∧(isAlloc o=true→∃n,o.dst=some n∧∃v,look st'.t n=some v∧∀d',isLp d' v=true→d'=n):=by
 have val:isAlloc o=false→(bnd (if isMs hh o.dst then msOp P hh o st else opVal P hh C o st) fun p=>some (p.2.put o.dst p.1))=some st'→(st'.t.map (·.1)).Nodup∧(isAlloc o=true→∃n,o.dst=some n∧∃v,look st'.t n=some v∧∀d',isLp d' v=true→d'=n):=by
  intro ha e
  obtain⟨⟨v,s⟩,hv,e⟩:=qa e
  injection e with e;subst e
  refine⟨qiv ?_,fun h=>by rw[ha] at h;cases h⟩
  split at hv
  ·exact qrf h hv
  ·exact qn0 h hv
 obtain⟨d,op,T,pos,af,g⟩:=o
 cases op with
 | alloc t =>
  simp only[stepOp] at e
  obtain⟨z,hz,e⟩:=qa e
  have:=qiw h e
  exact⟨this.1,fun _=>this.2⟩
 | box t x =>
  simp only[stepOp] at e
  obtain⟨⟨u,s⟩,hu,e⟩:=qa e
  simp only at e
  split at e
  ·obtain⟨v,hv,e⟩:=qa e
   have:=qiw (qay h hu) e
   exact⟨this.1,fun _=>this.2⟩
  ·cases e
 | store t y x =>
  refine⟨?_,fun h=>by cases h⟩
  cases d with
  | some _=>simp only[stepOp] at e;cases e
  | none =>
  simp only[stepOp] at e
  unfold storeA at e
  obtain⟨p,hpa,e⟩:=qa e
  obtain⟨⟨u,s⟩,hu,e⟩:=qa e
  split at e
  ·obtain⟨sz,hsz,e⟩:=qa e
   obtain⟨v,hv,e⟩:=qa e
   obtain⟨⟨cs,off⟩,hbx,e⟩:=qa e
   simp only at e
   split at e
   ·cases p with
    | lp dd i=>simp only[setBox] at e;injection e with e;subst e;have:=qay h hu;exact this
    | gp dd i sh=>simp only[setBox] at e;injection e with e;subst e;have:=qay h hu;exact this
    | _=>cases e
   ·cases e
  ·cases e
 | _=>exact val rfl e
end
end Go.AI
end
section
namespace Go.AI
set_option linter.unusedVariables false
theorem tk_mem {hh:Hint} {o:Oper} {x:Nat} (h:tkT hh o=some x):Operand.tmp x∈o.op.operands:=by
 obtain⟨d,op,T,pos,af,g⟩:=o
 cases op with
 | assign y=>cases y<;>simp_all [tkT,Op.operands]
 | move y=>cases y<;>simp_all [tkT,Op.operands]
 | extract y i=>cases y<;>simp_all [tkT,Op.operands]
 | box t y=>cases y<;>simp_all [tkT,Op.operands]
 | store t y z=>cases z<;>simp_all [tkT,Op.operands]
 | call c =>
  obtain⟨callee,xs,ts⟩:=c
  simp only[tkT] at h
  split at h
  ·rename_i hx
   have:Operand.tmp x∈xs.toList:=by rw[hx];injection h with h;subst h;exact List.mem_cons_self ..
   simp only[Op.operands,Call.operands]
   exact Array.mem_append_right _ (by simpa using this)
  ·split at h
   ·rename_i i hi
    split at h
    ·rename_i y hy
     injection h with h;subst h
     have:Operand.tmp y∈xs.toList:=List.mem_of_getElem? hy
     simp only[Op.operands,Call.operands]
     exact Array.mem_append_right _ (by simpa using this)
    ·cases h
   ·cases h
  ·cases h
 | _=>simp[tkT] at h
theorem mem_iff (l:List Nat) (i:Nat):mem l i=true↔i∈l:=by
 induction l with
 | nil=>simp[mem]
 | cons j r ih =>
  simp only[mem]
  by_cases h:j=i
  ·simp[h]
  ·simp only[if_neg h,ih,List.mem_cons]
   exact⟨.inr,fun h'=>h'.resolve_left fun e=>h e.symm⟩
theorem qjz {d:Nat} {ops:List Oper} {i:Nat} {o:Oper} (h:ops[i]? = some o) (ha:isAlloc o=true) (hd:o.dst=some d):mem (allocDs ops) d=true:=by
 rw[mem_iff]
 induction ops generalizing i with
 | nil=>simp at h
 | cons p r ih =>
  cases i with
  | zero =>
   simp at h;subst h
   simp only[allocDs]
   unfold isAlloc at ha
   split at ha<;>simp_all
  | succ i =>
   simp at h
   have:=ih h
   simp only[allocDs]
   split<;>simp[this]
theorem qdy {ds:List Nat} {t:List (Nat×AV)} {l:List Nat} (h:okAll ds t l=true) {x:Nat} (hx:x∈l):okLp ds (look t x)=true:=by
 induction l with
 | nil=>cases hx
 | cons y r ih =>
  simp only[okAll,Bool.and_eq_true] at h
  cases hx with
  | head=>exact h.1
  | tail _ hx=>exact ih h.2 hx
theorem qbx (ds:List Nat):∀(t:List (Nat×AV)),(t.map (·.1)).Nodup→((dropAll ds t).map (·.1)).Nodup∧∀i v,look (dropAll ds t) i=some v→look t i=some v∧∀d∈ds,isLp d v=false:=by
 induction ds with
 | nil=>intro t h;exact⟨h,fun i v e=>⟨e,fun d hd=>by cases hd⟩⟩
 | cons d r ih =>
  intro t h
  have hn:=(qd6 d t).nodup h
  obtain⟨h1,h2⟩:=ih (dropLp d t) hn
  refine⟨h1,fun i v e=>?_⟩
  obtain⟨h3,h4⟩:=h2 i v e
  obtain⟨h5,h6⟩:=qdn d t h i v h3
  refine⟨h5,fun d' hd=>?_⟩
  cases hd with
  | head=>exact h6
  | tail _ hd=>exact h4 d' hd
def last {α:Type} (S:Nat→Bool) (W:Nat→Bool) (v:Nat→α):Nat→α
 | 0=>v 0
 | k+1=>if S k&&W k then v (k+1) else last S W v k
theorem qbf {α : Type} {S W : Nat → Bool} {v : Nat → α} {i : Nat} (hf : ∀ k, k < i → W k = false → v (k + 1) = v k) : ∀ n, i ≤ n → (∀ k, k < i → W k = true → S k = true) → (∀ k, i ≤ k → k < n → W k = true → S k = false) → last S W v n = v i := by
  have lo : ∀ m, m ≤ i → (∀ k, k < i → W k = true → S k = true) → last S W v m = v m := by
    intro m
    induction m with
    | zero => intro _ _; rfl
    | succ m ih =>
      intro hm h
      simp only [last]
      cases hw : W m with
      | true => simp [h m (by omega) hw]
      | false => simp only [Bool.and_false, Bool.false_eq_true, if_false]; rw [ih (by omega) h, hf m (by omega) hw]
  intro n
  induction n with
  | zero => intro hi h1 h2; obtain rfl : i = 0 := by omega
            rfl
  | succ n ih =>
    intro hi h1 h2
    by_cases hn : i = n + 1
    · subst hn; exact lo _ (Nat.le_refl _) h1
    · simp only [last]
      rw [if_neg, ih (by omega) h1 fun k h3 h4 => h2 k h3 (by omega)]
      simp only [Bool.and_eq_true, not_and]
      intro hs hw
      rw [h2 n (by omega) (by omega) hw] at hs; cases hs
theorem qhg {α:Type} {S S' W:Nat→Bool} {v:Nat→α} {i:Nat} (hS:∀k,S' k=(S k||decide (k=i))):∀n,i<n→(W i=true→∀k,i<k→k<n→W k=true→S k=false) →
  last S' W v n=if W i then v (i+1) else last S W v n:=by
 have lo:∀m,m≤i→last S' W v m=last S W v m:=by
  intro m
  induction m with
  | zero=>intro _;rfl
  | succ m ih=>intro hm;simp only[last,hS m,show decide (m=i)=false from by simp;omega,Bool.or_false,ih (by omega)]
 intro n
 induction n with
 | zero=>intro h;omega
 | succ n ih =>
  intro hi h
  by_cases hn:i=n
  ·subst hn
   simp only[last,hS i,lo i (Nat.le_refl _)]
   cases W i<;>simp
  ·have hs':S' n=S n:=by rw[hS n];simp;omega
   simp only[last,hs']
   rw[ih (by omega) fun hw k h1 h2=>h hw k h1 (by omega)]
   cases hw:W i with
   | false=>simp
   | true =>
    simp only[if_true]
    rw[if_neg]
    simp only[Bool.and_eq_true,not_and]
    intro h1 h2
    rw[h hw n (by omega) (by omega) h2] at h1;cases h1
theorem qhh {α:Type} {S W:Nat→Bool} {v:Nat→α}:∀n,last S W v n=v 0∨∃k,k<n∧S k=true∧W k=true∧last S W v n=v (k+1):=by
 intro n
 induction n with
 | zero=>exact .inl rfl
 | succ n ih =>
  simp only[last]
  split
  ·rename_i h;simp only[Bool.and_eq_true] at h;exact .inr ⟨n,by omega,h.1,h.2,rfl⟩
  ·rcases ih with h|⟨k,h1,h2,h3,h4⟩
   ·exact .inl h
   ·exact .inr ⟨k,by omega,h2,h3,h4⟩
end Go.AI
end
section
namespace Go.AI
set_option linter.unusedVariables false
theorem qcw {a b:Option Nat}:meetB a b=true↔∃x,a=some x∧b=some x:=by
 unfold meetB
 split
 ·rename_i x y
  simp only[beq_iff_eq,Option.some.injEq]
  exact⟨fun h=>⟨x,rfl,h.symm⟩,fun ⟨z,h1,h2⟩=>h1.trans h2.symm⟩
 ·rename_i hn
  constructor
  ·intro h;cases h
  ·rintro⟨x,rfl,rfl⟩;exact absurd rfl (hn x x rfl)
section
variable {P:Program} {hh:Hint} {C:Oracle}
def qn1 (P:Program) (hh:Hint) (C:Oracle) (ops:List Oper) (o:Oper) (st st':St):Prop :=
 (wantedA ops o.guard st=some true∧stepOp P hh C o st=some st')∨(wantedA ops o.guard st=some false∧st'=st.put o.dst (.tup []))
theorem qfj {ds:List Nat} {ops:List Oper} {o:Oper} {st st' st2:St} (h:StepD P hh C ds ops o st st') (ha:Ahead hh o st st2) (hg:wantedA ops o.guard st2=wantedA ops o.guard st) :
  ∃st2',qn1 P hh C ops o st2 st2'∧Alike (wrT hh o) (boxW hh o) st' st2 st2'∧SRel hh o st st' st2 st2':=by
 rcases h with ⟨h1,h2,h3,h4,h5⟩|⟨h1,h2,_⟩
 ·obtain⟨st2',h6,h7,h8⟩:=qgx h2 ha h3
  exact⟨st2',.inl ⟨by rw[hg,h1],h6⟩,h7,h8⟩
 ·refine⟨_,.inr ⟨by rw[hg,h1],rfl⟩,⟨fun x=>?_,fun d=>?_⟩,.inl ⟨?_,?_⟩⟩
  ·subst h2
   cases hd:o.dst with
   | none =>
    simp only[St.put,wrT,hd,Option.toList_none,List.nil_append]
    split
    ·rename_i hx
     have:=ha.t _ (tk_mem (by simpa using hx))
     exact this
    ·rfl
   | some d =>
    simp only[St.put,qu,wrT,hd,Option.toList_some,List.cons_append,List.nil_append,List.mem_cons]
    by_cases hx:x=d
    ·simp[hx]
    ·simp only[hx,if_false,false_or]
     split
     ·rename_i hx
      exact ha.t _ (tk_mem (by simpa using hx))
     ·rfl
  ·subst h2
   have e1:(st2.put o.dst (.tup [])).l=st2.l:=by cases o.dst<;>rfl
   have e2:(st.put o.dst (.tup [])).l=st.l:=by cases o.dst<;>rfl
   rw[e1,e2]
   split
   ·rename_i hb;exact ha.b d (.inr hb)
   ·rfl
  ·subst h2;cases o.dst<;>rfl
  ·cases o.dst<;>rfl
def dS (s:List (List AV)):List (List AV):=s.map (·.map dem1)
theorem qrg (v:AV):dem (dem1 v)=dem v:=by cases v<;>rfl
theorem qix (v:AV):dem1 (dem1 v)=dem1 v:=by cases v<;>rfl
theorem qxl {s s2:List (List AV)} (e:dS s2=dS s) (b:Nat):(s2[b]?).map (·.map dem1)=(s[b]?).map (·.map dem1):=by
 have:=congrArg (fun x:List (List AV)=>x[b]?) e
 simpa[dS] using this
theorem qg1 {a b:List AV} (e:a.map dem1=b.map dem1):a.map dem=b.map dem:=by
 have h:∀l:List AV,l.map dem=(l.map dem1).map dem:=fun l=>by
  rw[List.map_map];exact List.map_congr_left fun x _=>(qrg x).symm
 rw[h a,h b,e]
theorem qiy {t:TypeId} {a b:List AV} {i:Nat} (e:a.map dem1=b.map dem1):(readCells P t a i).map dem=(readCells P t b i).map dem:=by
 have hl:a.length=b.length:=by simpa using congrArg List.length e
 unfold readCells
 cases isAggA P t with
 | none=>rfl
 | some g =>
  cases sizeA P t with
  | none=>rfl
  | some n =>
   simp only[bnd]
   cases g with
   | true =>
    simp only[if_true,hl]
    split
    ·have:((a.drop i).take n).map dem=((b.drop i).take n).map dem:=by
      rw[List.map_take,List.map_drop,qg1 e,List.map_take,List.map_drop]
     rw[this]
    ·rfl
   | false =>
    simp only[Bool.false_eq_true,if_false]
    have:=congrArg (fun x:List AV=>x[i]?) (qg1 e)
    simpa using this
theorem qhi {o:Oper} (h:plS hh o=true):∃t a,o.op=.load t a∧isMs hh o.dst=false∧allowS hh o=false∧seesS hh o=true:=by
 unfold plS at h
 split at h
 ·rename_i t a ho
  simp only[Bool.and_eq_true,Bool.not_eq_true'] at h
  refine⟨t,a,ho,h.1.2,h.2,?_⟩
  unfold seesS;rw[ho];exact h.1.1
 ·cases h
theorem qn2 {o:Oper} {st:St} {s2:List (List AV)} {t:TypeId} {x:Operand} (ho:o.op=.load t x) (e:∀b off sh,aeval st x=some (.gp b off sh)→b<st.s.length→(s2[b]?).map (·.map dem1)=(st.s[b]?).map (·.map dem1)) (hne:opPure P hh o st≠none):opPure P hh o {st with s:=s2}=opPure P hh o st:=by
 obtain⟨d,op,T,pos,af,g⟩:=o
 simp only at ho
 subst ho
 have ha:aeval {st with s:=s2} x=aeval st x:=by cases x<;>rfl
 simp only[opPure,ha] at hne ⊢
 cases hap:aeval st x with
 | none=>rfl
 | some p =>
  rw[hap] at e hne
  simp only[bnd] at hne ⊢
  cases p with
  | gp b off sh =>
   simp only[boxOf,bnd] at hne ⊢
   have hlt:b<st.s.length:=by
    cases hq:st.s[b]? with
    | none=>rw[hq] at hne;exact absurd rfl hne
    | some c=>exact (List.getElem?_eq_some_iff.1 hq).1
   have:=e b off sh rfl hlt
   cases h1:s2[b]? with
   | none =>
    rw[h1] at this
    cases h2:st.s[b]? with
    | none=>rfl
    | some c=>rw[h2] at this;cases this
   | some c2 =>
    rw[h1] at this
    cases h2:st.s[b]? with
    | none=>rw[h2] at this;cases this
    | some c =>
     rw[h2] at this
     simp only[Option.map_some,Option.some.injEq] at this
     simp only
     have hr:=qiy (P:=P) (t:=t) (i:=off) this
     cases h3:readCells P t c2 off with
     | none =>
      rw[h3] at hr
      cases h4:readCells P t c off with
      | none=>rfl
      | some v=>rw[h4] at hr;cases hr
     | some v2 =>
      rw[h3] at hr
      cases h4:readCells P t c off with
      | none=>rw[h4] at hr;cases hr
      | some v =>
       rw[h4] at hr
       simp only[Option.map_some,Option.some.injEq] at hr
       simp only[hr]
  | _=>rfl
theorem qiz {o:Oper} {st st':St} {s2:List (List AV)} (hp:plS hh o=true) (e:∀t x b off sh,o.op=.load t x→aeval st x=some (.gp b off sh)→b<st.s.length→(s2[b]?).map (·.map dem1)=(st.s[b]?).map (·.map dem1)) (h:stepOp P hh C o st=some st'):stepOp P hh C o {st with s:=s2}=some {st' with s:=s2}∧st'.s=st.s:=by
 obtain⟨t,a,ho,hm,_,_⟩:=qhi hp
 have key:∀st:St,stepOp P hh C o st=bnd (opPure P hh o st) fun v=>some (st.put o.dst v):=by
  intro st
  unfold stepOp
  rw[ho]
  simp only[hm,Bool.false_eq_true,if_false,opVal,ho]
  cases opPure P hh o st<;>rfl
 rw[key] at h ⊢
 rw[qn2 ho (fun b off sh=>e t a b off sh ho) (fun hn=>by rw[hn] at h;cases h)]
 obtain⟨v,hv,h⟩:=qa h
 injection h with h
 rw[hv]
 subst h
 constructor
 ·simp only[bnd];cases o.dst<;>rfl
 ·cases o.dst<;>rfl
theorem qi0 {ds:List Nat} {ops:List Oper} {o:Oper} {st st' st2:St} (h:StepD P hh C ds ops o st st') (ht:∀x∈o.op.operands,aeval st2 x=aeval st x)
  (hs:seesS hh o=true→plS hh o=false→st2.s=st.s) (hs2:plS hh o=true→∀t x b off sh,o.op=.load t x→aeval st x=some (.gp b off sh)→b<st.s.length→(st2.s[b]?).map (·.map dem1)=(st.s[b]?).map (·.map dem1)) (hb:∀d,boxR hh o=some d∨boxW hh o=some d→look st2.l d=look st.l d)
  (hn:∀d,isAlloc o=true→o.dst=some d→noLp d st2.t=true) (hg:wantedA ops o.guard st2=wantedA ops o.guard st) :
  ∃st2',qn1 P hh C ops o st2 st2'∧Alike (wrT hh o) (boxW hh o) st' st2 st2'∧((st'.s=st.s∧st2'.s=st2.s)∨(seesS hh o=true∧plS hh o=false∧st2'.s=st'.s)):=by
 cases hp:plS hh o with
 | false =>
  obtain⟨s,h1,h2,h3⟩:=qfj h ⟨ht,fun q=>hs q hp,hb,hn⟩ hg
  refine⟨s,h1,h2,?_⟩
  rcases h3 with h3|⟨h3,h4⟩
  ·exact .inl h3
  ·exact .inr ⟨h3,rfl,h4⟩
 | true =>
  have ha:Ahead hh o st {st2 with s:=st.s}:=⟨fun x hx=>by rw[← ht x hx];cases x<;>rfl,fun _=>rfl,hb,hn⟩
  obtain⟨s,h1,h2,h3⟩:=qfj h ha (by rw[← hg];rfl)
  refine⟨{s with s:=st2.s},?_,⟨h2.t,h2.l⟩,.inl ⟨?_,rfl⟩⟩
  ·rcases h1 with ⟨g1,g2⟩|⟨g1,g2⟩
   ·exact .inl ⟨g1,(qiz (st:={st2 with s:=st.s}) (st':=s) (s2:=st2.s) hp (fun t x b off sh h1 h2=>hs2 hp t x b off sh h1 (by rw[← ht x (by rw[h1];simp[Op.operands])];rw[← h2];cases x<;>rfl)) g2).1⟩
   ·refine .inr ⟨g1,?_⟩
    rw[g2];cases o.dst<;>rfl
  ·rcases h with ⟨_,_,q,_,_⟩|⟨_,q,_⟩
   ·exact (qiz (s2:=st.s) hp (fun _ _ _ _ _ _ _ _=>rfl) q).2
   ·rw[q];cases o.dst<;>rfl
theorem qxm {s:List (List AV)} {b off:Nat} {cs:List AV} {v:AV} (h:s[b]? = some cs) (hv:cs[off]? = some v):dS (s.set b (cs.set off (dem1 v)))=dS s:=by
 have h1:(cs.set off (dem1 v)).map dem1=cs.map dem1:=by
  apply List.ext_getElem?
  intro j
  rw[List.getElem?_map,List.getElem?_map,List.getElem?_set]
  split
  ·rename_i hj
   subst hj
   have hlt:=(List.getElem?_eq_some_iff.1 hv).1
   rw[if_pos hlt,hv];simp[qix]
  ·rfl
 unfold dS
 apply List.ext_getElem?
 intro j
 rw[List.getElem?_map,List.getElem?_map,List.getElem?_set]
 split
 ·rename_i hj
  subst hj
  have hlt:=(List.getElem?_eq_some_iff.1 h).1
  rw[if_pos hlt,h];simp[h1]
 ·rfl
theorem qrh {ds:List Nat} {ops:List Oper} {o:Oper} {st st':St} (h:StepD P hh C ds ops o st st') (hm:mvS hh o=true):dS st'.s=dS st.s:=by
 unfold mvS at hm
 split at hm
 ·rename_i t a ho
  rcases h with ⟨_,_,q,_,_⟩|⟨_,rfl,_⟩
  ·unfold stepOp at q
   rw[ho] at q
   simp only at q
   obtain⟨⟨v,s⟩,hv,q⟩:=qa q
   injection q with q
   have e:st'.s=s.s:=by rw[← q];cases o.dst<;>rfl
   rw[e]
   split at hv
   ·simp only[msOp,ho,msLoad] at hv
    split at hv
    ·cases hv
    ·obtain⟨p,_,hv⟩:=qa hv
     split at hv
     ·obtain⟨g,_,hv⟩:=qa hv
      obtain⟨cs,hcs,hv⟩:=qa hv
      obtain⟨u,hu,hv⟩:=qa hv
      split at hv
      ·cases hv
      ·simp only[Option.some.injEq,Prod.mk.injEq] at hv
       obtain⟨_,rfl⟩:=hv
       exact qxm hcs hu
     ·cases hv
   ·simp only[opVal,ho] at hv
    obtain⟨u,_,hv⟩:=qa hv
    simp only[Option.some.injEq,Prod.mk.injEq] at hv
    obtain⟨_,rfl⟩:=hv
    rfl
  ·cases o.dst<;>rfl
 ·cases hm
theorem qeu {b:Bool} {o:Oper} {x:Nat} (h:mvM hh b o=some x):o.op=.move (.tmp x)∧isMs hh o.dst=false∧steals hh o.dst=b∧o.guard=none∧o.dst≠some x:=by
 unfold mvM at h
 split at h
 ·rename_i y hy
  split at h
  ·rename_i hc
   injection h with h;subst h
   simp only[Bool.and_eq_true,Bool.not_eq_true',beq_iff_eq,bne_iff_ne,ne_eq,Option.isNone_iff_eq_none] at hc
   exact⟨hy,hc.1.1.1,hc.1.1.2,hc.1.2,hc.2⟩
  ·cases h
 ·cases h
theorem qg2 {b:Bool} {ds:List Nat} {ops:List Oper} {o:Oper} {st st':St} {x:Nat} (h:StepD P hh C ds ops o st st') (hm:mvM hh b o=some x) :
  ∃v,look st.t x=some v∧st'=({st with t:=if b then ins st.t x (dem v) else st.t}:St).put o.dst (if b then v else dem v):=by
 obtain⟨h1,h2,h3,h4,h5⟩:=qeu hm
 rcases h with ⟨_,_,q,_,_⟩|⟨q,_,_⟩
 ·unfold stepOp at q
  simp only[h1,h2,Bool.false_eq_true,if_false,opVal,lend,h3] at q
  obtain⟨⟨u,s⟩,hu,q⟩:=qa q
  injection q with q;subst q
  cases b with
  | true =>
   simp only[if_true,takeOp] at hu ⊢
   obtain⟨v,hv,hu⟩:=qa hu
   simp only[Option.some.injEq,Prod.mk.injEq] at hu
   obtain⟨rfl,rfl⟩:=hu
   exact⟨v,hv,rfl⟩
  | false =>
   simp only[Bool.false_eq_true,if_false,aeval] at hu ⊢
   obtain⟨v,hv,hu⟩:=qa hu
   simp only[Option.some.injEq,Prod.mk.injEq] at hu
   obtain⟨rfl,rfl⟩:=hu
   exact⟨v,hv,rfl⟩
 ·rw[h4] at q;cases q
theorem qla (v:AV):dem (dem v)=dem v:=by
 cases v with
 | tup xs=>simp only[dem,List.map_map];congr 1;apply List.map_congr_left;intro y _;exact qix y
 | _=>rfl
theorem qri {ds:List Nat} {ops:List Oper} {o:Oper} {st st':St} {x:Nat} (h:StepD P hh C ds ops o st st') (hm:mvM hh true o=some x):(look st'.t x).map dem=(look st.t x).map dem:=by
 obtain⟨v,hv,rfl⟩:=qg2 h hm
 have h5:=(qeu hm).2.2.2.2
 cases hd:o.dst with
 | none=>simp[St.put,qu,hv,qla]
 | some d =>
  have:x≠d:=fun e=>h5 (by rw[hd,e])
  simp[St.put,qu,this,hv,qla]
theorem qrj {ds:List Nat} {ops:List Oper} {o:Oper} {st st' st2:St} {x:Nat} (h:StepD P hh C ds ops o st st') (hm:mvM hh false o=some x) (hx:(look st2.t x).map dem=(look st.t x).map dem) :
  ∃st2',qn1 P hh C ops o st2 st2'∧Alike (wrT hh o) (boxW hh o) st' st2 st2'∧((st'.s=st.s∧st2'.s=st2.s)∨(seesS hh o=true∧plS hh o=false∧st2'.s=st'.s)):=by
 obtain⟨v,hv,rfl⟩:=qg2 h hm
 obtain⟨h1,h2,h3,h4,h5⟩:=qeu hm
 rw[hv] at hx
 cases hu:look st2.t x with
 | none=>rw[hu] at hx;cases hx
 | some u =>
  rw[hu] at hx
  simp only[Option.map_some,Option.some.injEq] at hx
  have hw:wrT hh o=o.dst.toList:=by
   unfold wrT tkT
   simp only[h1,h3,Bool.false_eq_true,if_false,Option.toList_none,List.append_nil]
  have hb:boxW hh o=none:=by unfold boxW;simp only[h1]
  refine⟨st2.put o.dst (dem v),.inl ⟨by rw[h4];rfl,?_⟩,⟨fun y=>?_,fun d=>?_⟩,.inl ⟨?_,?_⟩⟩
  ·unfold stepOp
   simp only[h1,h2,Bool.false_eq_true,if_false,opVal,lend,h3,aeval,hu,bnd,hx]
  ·rw[hw]
   cases hd:o.dst with
   | none=>simp[St.put]
   | some d =>
    simp only[St.put,qu,Option.toList_some,List.mem_singleton,Bool.false_eq_true,if_false]
    split<;>rfl
  ·rw[hb];cases o.dst<;>simp[St.put]
  ·cases o.dst<;>rfl
  ·cases o.dst<;>rfl
theorem qrk {α β:Type} (g:α→β) {S W:Nat→Bool} {v:Nat→α}:∀n,g (last S W v n)=last S W (fun k=>g (v k)) n:=by
 intro n
 induction n with
 | zero=>rfl
 | succ n ih=>simp only[last];split;rfl;exact ih
theorem qn3 {α:Type} {S A W:Nat→Bool} {v:Nat→α} (hW:∀k,W k=true→A k=true):∀n,(∀k,k<n→W k=false→v (k+1)=v k)→(∀j k,j<k→k<n→A j=true→A k=true→S k=true→S j=true)→last S A v n=last S W v n:=by
 intro n
 induction n with
 | zero=>intro _ _;rfl
 | succ n ih =>
  intro h1 h2
  have ihn:=ih (fun k hk=>h1 k (by omega)) (fun j k a b=>h2 j k a (by omega))
  simp only[last]
  by_cases hA:(S n&&A n)=true
  ·rw[if_pos hA]
   simp only[Bool.and_eq_true] at hA
   cases hw:W n with
   | true=>simp[hA.1]
   | false =>
    simp only[Bool.and_false,Bool.false_eq_true,if_false]
    rw[h1 n (by omega) hw]
    exact (qbf (i:=n) (fun k hk=>h1 k (by omega)) n (Nat.le_refl _) (fun k hk hwk=>h2 k n hk (by omega) (hW k hwk) hA.2 hA.1) (fun k a b=>by omega)).symm
  ·rw[if_neg hA,ihn]
   split
   ·rename_i hq
    simp only[Bool.and_eq_true] at hA hq
    exact absurd ⟨hq.1,hW n hq.2⟩ hA
   ·rfl
theorem qn4 {ds:List Nat} {ops:List Oper} {o:Oper} {st st':St} (h:StepD P hh C ds ops o st st') (hn:allowS hh o=false):st'.s=st.s:=by
 rcases h with ⟨h1,h2,h3,h4,h5⟩|⟨h1,rfl,hk⟩
 ·rcases h4.1 with h4|h4
  ·rw[hn] at h4;cases h4
  ·exact h4
 ·cases o.dst<;>rfl
theorem qj0 {ds:List Nat} {ops:List Oper} {o:Oper} {st st':St} (h:StepD P hh C ds ops o st st') (hn:(st.t.map (·.1)).Nodup):(st'.t.map (·.1)).Nodup:=by
 rcases h with ⟨h1,h2,h3,h4,h5⟩|⟨h1,rfl,hk⟩
 ·exact (qg0 hn h3).1
 ·exact qiv hn
theorem qj1 {ds:List Nat} {ops:List Oper} {o:Oper} {st st':St} (h:StepD P hh C ds ops o st st') :
  (∀x,x∉wrT hh o→look st'.t x=look st.t x)∧(∀d,boxW hh o≠some d→look st'.l d=look st.l d):=by
 rcases h with ⟨h1,h2,h3,h4,h5⟩|⟨h1,rfl,hk⟩
 ·have ha:Ahead hh o st st:=⟨fun _ _=>rfl,fun _=>rfl,fun _ _=>rfl,fun d ha hd=>by
   unfold preD at h2
   unfold isAlloc at ha
   split at ha
   ·rename_i heq;rw[heq] at h2;simp only[hd] at h2;exact h2
   ·rename_i heq;rw[heq] at h2;simp only[hd] at h2;exact h2
   ·cases ha⟩
  obtain⟨st2,h6,h7,_⟩:=qgx h2 ha h3
  rw[h3] at h6
  injection h6 with h6;subst h6
  exact⟨fun x hx=>by have:=h7.t x;rw[if_neg hx] at this;exact this,fun d hd=>by have:=h7.l d;rw[if_neg hd] at this;exact this⟩
 ·refine⟨fun x hx=>?_,fun d hd=>?_⟩
  ·cases hd:o.dst with
   | none=>rfl
   | some d =>
    simp only[St.put,qu]
    rw[if_neg]
    intro e;subst e;exact hx (by simp[wrT,hd])
  ·cases o.dst<;>rfl
theorem ql9 {ops:List Oper} {i:Nat} {o:Oper} {st st':St} (h:StepD P hh C (allocDs ops) ops o st st') (hn:(st.t.map (·.1)).Nodup) (ho:ops[i]? = some o) {x d:Nat} (hx:x∈wrT hh o) (hd:mem (allocDs ops) d=true)
  {v:AV} (hv:look st'.t x=some v) (hl:isLp d v=true):isAlloc o=true∧o.dst=some d:=by
 rcases h with ⟨h1,h2,h3,h4,h5⟩|⟨h1,rfl,hk⟩
 ·have bad:okLp (allocDs ops) (look st'.t x)=true→False:=by
   intro hk
   rw[hv] at hk
   cases v with
   | lp d' i' =>
    simp only[isLp,beq_iff_eq] at hl
    subst hl
    simp only[okLp,hd] at hk;cases hk
   | _=>cases hl
  by_cases ha:isAlloc o=true
  ·refine⟨ha,?_⟩
   obtain⟨n,h6,u,h7,h8⟩:=(qg0 hn h3).2 ha
   have hpd:okAll (allocDs ops) st'.t (tkT hh o).toList=true:=by
    unfold postD at h5
    unfold isAlloc at ha
    split at ha
    ·rename_i heq;rw[heq] at h5;exact h5
    ·rename_i heq;rw[heq] at h5;exact h5
    ·cases ha
   simp only[wrT,h6,Option.toList_some,List.cons_append,List.nil_append,List.mem_cons] at hx
   rcases hx with rfl|hx
   ·rw[h7] at hv;injection hv with hv;subst hv
    rw[h8 d hl];exact h6
   ·exact (bad (qdy hpd hx)).elim
  ·have hpd:okAll (allocDs ops) st'.t (wrT hh o)=true:=by
    unfold postD at h5
    unfold isAlloc at ha
    split at h5
    ·rename_i heq;rw[heq] at ha;exact absurd rfl ha
    ·rename_i heq;rw[heq] at ha;exact absurd rfl ha
    ·exact h5
   exact (bad (qdy hpd hx)).elim
 ·exfalso
  have old:∀y,y∈(tkT hh o).toList→look st.t y=some v→False:=fun y hy e=>by
   have:=qdy hk hy
   rw[e] at this
   cases v with
   | lp d' i' =>
    simp only[isLp,beq_iff_eq] at hl
    subst hl
    simp only[okLp,hd] at this;cases this
   | _=>cases hl
  cases hd':o.dst with
  | none =>
   rw[hd'] at hv
   simp only[wrT,hd',Option.toList_none,List.nil_append] at hx
   exact old x hx hv
  | some d' =>
   rw[hd'] at hv
   simp only[St.put,qu] at hv
   simp only[wrT,hd',Option.toList_some,List.cons_append,List.nil_append,List.mem_cons] at hx
   split at hv
   ·injection hv with hv;subst hv;cases hl
   ·rename_i hne
    exact old x (hx.resolve_left hne) hv
end
end Go.AI
end
section
namespace Go.AI
open Go.RowKit
set_option linter.unusedVariables false
theorem qav {hh:Hint} {ops:Array Oper} (h:drawOk hh ops=true) {j:Nat} {p:Oper} (hj:ops[j]? = some p) :
  (∀e∈p.after,Region.binds .any e=true→e.on<j)∧∀i o,i<j→ops[i]? = some o→(conf hh ops o p=true→befT ops.toList i j=true)∧¬(isAlloc o=true∧isAlloc p=true∧o.dst=p.dst):=by
 have hlt:j<ops.size:=(Array.getElem?_eq_some_iff.1 hj).1
 have:=List.all_eq_true.1 h j (List.mem_range.2 hlt)
 simp only[hj,Bool.and_eq_true] at this
 obtain⟨h1,h2⟩:=this
 refine⟨fun e he hb=>?_,fun i o hi ho=>?_⟩
 ·have:=List.all_eq_true.1 h1 e (by simpa using he)
  simpa[hb] using this
 ·have:=List.all_eq_true.1 h2 i (List.mem_range.2 hi)
  simp only[ho,Bool.and_eq_true,Bool.or_eq_true,Bool.not_eq_true'] at this
  refine⟨fun hc=>?_,fun ⟨a1,a2,a3⟩=>?_⟩
  ·rcases this.1 with h|h
   ·rw[hc] at h;cases h
   ·exact h
  ·have:=this.2
   simp[a1,a2,a3] at this
theorem qrl {ops:Array Oper} {i j:Nat} {p:Oper} (hj:ops[j]? = some p) (h:bef ops.toList i j=true):∃e∈p.after,Region.binds .any e=true∧e.on=i:=by
 unfold bef at h
 have:ops.toList[j]? = some p:=by simpa using hj
 rw[this] at h
 simp only at h
 obtain⟨e,he,h⟩:=List.any_eq_true.1 h
 simp only[Bool.and_eq_true,beq_iff_eq] at h
 exact⟨e,by simpa using he,h.1,h.2⟩
theorem qlb {ops:Array Oper} {S:Nat→Prop} (hS:∀j o,ops[j]? = some o→S j→∀e∈o.after,Region.binds .any e=true→S e.on) (i:Nat):∀n j,befs ops.toList n i j=true→(∀o,ops[j]? = some o→∀e∈o.after,Region.binds .any e=true→S e.on)→S i:=by
 intro n
 induction n with
 | zero=>intro j h _;cases h
 | succ n ih =>
  intro j h hp
  simp only[befs] at h
  split at h
  ·rename_i o ho
   have ho:ops[j]? = some o:=by simpa using ho
   obtain⟨e,he,h⟩:=List.any_eq_true.1 h
   simp only[Bool.and_eq_true,Bool.or_eq_true,beq_iff_eq] at h
   obtain⟨h1,h2⟩:=h
   have hSe:=hp o ho e (by simpa using he) h1
   rcases h2 with h2|h2
   ·rw[← h2];exact hSe
   ·exact ih e.on h2 fun o' ho'=>hS e.on o' ho' hSe
  ·cases h
theorem qev {ops:Array Oper} {S:Nat→Prop} (hS:∀j o,ops[j]? = some o→S j→∀e∈o.after,Region.binds .any e=true→S e.on) {i j:Nat} {p:Oper} (hj:ops[j]? = some p) (h:befT ops.toList i j=true) (hp:∀e∈p.after,Region.binds .any e=true→S e.on):S i:=by
 unfold befT at h
 rw[Bool.or_eq_true] at h
 rcases h with h|h
 ·obtain⟨e,he,hb,hon⟩:=qrl hj h
  rw[← hon];exact hp e he hb
 ·exact qlb hS i 5 j h fun o ho=>by rw[hj] at ho;injection ho with ho;subst ho;exact hp
def befL (ops:List Oper) (i j:Nat):Bool:=befs ops 14 i j
theorem qrm {ops:Array Oper} {S:Nat→Prop} (hS:∀j o,ops[j]? = some o→S j→∀e∈o.after,Region.binds .any e=true→S e.on) {i j:Nat} {p:Oper} (hj:ops[j]? = some p) (h:befL ops.toList i j=true) (hp:∀e∈p.after,Region.binds .any e=true→S e.on):S i :=
 qlb hS i 14 j h fun o ho=>by rw[hj] at ho;injection ho with ho;subst ho;exact hp
def cnt (S:Nat→Bool):Nat→Nat
 | 0=>0
 | k+1=>cnt S k+if S k then 0 else 1
theorem quf {S S':Nat→Bool} {i:Nat} (hS:∀k,S' k=(S k||decide (k=i))) (hi:S i=false):∀n,cnt S n=cnt S' n+if i<n then 1 else 0:=by
 intro n
 induction n with
 | zero=>rfl
 | succ n ih =>
  simp only[cnt,hS n,ih]
  by_cases hn:n=i
  ·subst hn;simp[hi]
  ·have h1:(i<n+1)↔i<n:=by omega
   simp[hn,h1];omega
theorem qrn {S:Nat→Bool}:∀n,cnt S n=0→∀k,k<n→S k=true:=by
 intro n
 induction n with
 | zero=>intro _ k hk;omega
 | succ n ih =>
  intro h k hk
  simp only[cnt] at h
  have h1:cnt S n=0:=by omega
  have h2:S n=true:=by
   cases hs:S n with
   | true=>rfl
   | false=>simp[hs] at h
  by_cases hkn:k=n
  ·subst hkn;exact h2
  ·exact ih h1 k (by omega)
section
variable {P:Program} {hh:Hint} {C:Oracle} {B:Nat} {W0:World}
theorem qi1 {N:Nat} {l:List Oper} (h:opsOk N l=true) {i:Nat} {o:Oper} (ho:l[i]? = some o):∀n,o.dst=some n→n<N:=by
 induction l generalizing i with
 | nil=>simp at ho
 | cons p r ih =>
  simp only[opsOk,Bool.and_eq_true] at h
  cases i with
  | zero=>simp at ho;subst ho;intro n hn;have:=h.1;rw[hn] at this;simpa using this
  | succ i=>simp at ho;exact ih h.2 ho
def StepE (P:Program) (hh:Hint) (C:Oracle) (ds:List Nat) (ops:List Oper) (o:Oper) (st st':St):Prop :=
 StepD P hh C ds ops o st st'∨(st'=st∧okAll ds st.t (wrT hh o)=true)
theorem qj2 {ds:List Nat} {ops:List Oper} {o:Oper} {st st':St} (h:StepE P hh C ds ops o st st') (hn:(st.t.map (·.1)).Nodup):(st'.t.map (·.1)).Nodup:=by
 rcases h with h|⟨rfl,_⟩
 ·exact qj0 h hn
 ·exact hn
theorem qdr {ds:List Nat} {ops:List Oper} {o:Oper} {st st':St} (h:StepE P hh C ds ops o st st') :
  (∀x,x∉wrT hh o→look st'.t x=look st.t x)∧(∀d,boxW hh o≠some d→look st'.l d=look st.l d):=by
 rcases h with h|⟨rfl,_⟩
 ·exact qj1 h
 ·exact⟨fun _ _=>rfl,fun _ _=>rfl⟩
theorem qn5 {ds:List Nat} {ops:List Oper} {o:Oper} {st st':St} (h:StepE P hh C ds ops o st st') (hn:allowS hh o=false):st'.s=st.s:=by
 rcases h with h|⟨rfl,_⟩
 ·exact qn4 h hn
 ·rfl
theorem qro {ds:List Nat} {ops:List Oper} {o:Oper} {st st':St} {x:Nat} (h:StepE P hh C ds ops o st st') (hm:mvM hh true o=some x):(look st'.t x).map dem=(look st.t x).map dem:=by
 rcases h with h|⟨rfl,_⟩
 ·exact qri h hm
 ·rfl
theorem qrp {ds:List Nat} {ops:List Oper} {o:Oper} {st st':St} (h:StepE P hh C ds ops o st st') (hm:mvS hh o=true):dS st'.s=dS st.s:=by
 rcases h with h|⟨rfl,_⟩
 ·exact qrh h hm
 ·rfl
theorem qrq {ds:List Nat} {ops:List Oper} {o:Oper} {st st':St} (h:StepE P hh C ds ops o st st') (hm:adS hh o=true):st'.s.take st.s.length=st.s:=by
 rcases h with h|⟨rfl,_⟩
 ·rcases h with ⟨_,_,_,h4,_⟩|⟨_,rfl,_⟩
  ·exact h4.2 hm
  ·cases o.dst<;>simp[St.put]
 ·simp
theorem qrr {α:Type} {S W:Nat→Bool} {v:Nat→α}:∀n,∃q,last S W v n=v q∧q≤n∧(∀k,q≤k→k<n→(S k&&W k)=false)∧(q=0∨∃k,q=k+1∧S k=true∧W k=true):=by
 intro n
 induction n with
 | zero=>exact⟨0,rfl,Nat.le_refl _,fun k h1 h2=>by omega,.inl rfl⟩
 | succ n ih =>
  simp only[last]
  cases hc:(S n&&W n) with
  | true =>
   simp only[Bool.and_eq_true] at hc
   exact⟨n+1,by simp,Nat.le_refl _,fun k h1 h2=>by omega,.inr ⟨n,rfl,hc.1,hc.2⟩⟩
  | false =>
   obtain⟨q,h1,h2,h3,h4⟩:=ih
   refine⟨q,by simp[h1],by omega,fun k k1 k2=>?_,h4⟩
   by_cases hk:k=n
   ·subst hk;exact hc
   ·exact h3 k k1 (by omega)
theorem qma {ops:List Oper} {i:Nat} {o:Oper} {st st':St} (h:StepE P hh C (allocDs ops) ops o st st') (hn:(st.t.map (·.1)).Nodup) (ho:ops[i]? = some o) {x d:Nat} (hx:x∈wrT hh o) (hd:mem (allocDs ops) d=true)
  {v:AV} (hv:look st'.t x=some v) (hl:isLp d v=true):isAlloc o=true∧o.dst=some d:=by
 rcases h with h|⟨rfl,hk⟩
 ·exact ql9 h hn ho hx hd hv hl
 ·exfalso
  have:=qdy hk hx
  rw[hv] at this
  cases v with
  | lp d' i' =>
   simp only[isLp,beq_iff_eq] at hl
   subst hl
   simp only[okLp,hd] at this;cases this
  | _=>cases hl
theorem qfk {T0 : Nat → Prop} {μ0 : Gh} {w0 : World} {N : Nat} {ops : Array Oper} {f : Nat → St} {Q : Exit → Act → World → Prop} {R : Array Bool → Gh → (Nat → Option Nat) → Act → World → St → Prop} (hok : drawOk hh ops = true)
    (hRs : ∀ listed μ lx a w σ, R listed μ lx a w σ → Sim B T0 μ0 w0 N μ lx a w σ)
    (hRn : ∀ (listed : Array Bool) (i : Nat) (o : Oper) (a : Act) (w : World) (μ : Gh) (lx : Nat → Option Nat) (σ σ' : St) (K : Act → World → Prop), ops[i]? = some o → i < listed.size → listed.getD i false = false →
      (∀ e ∈ o.after, Region.binds .any e = true → listed.getD e.on false = true) → R listed μ lx a w σ → qn1 P hh C ops.toList o σ σ' →
      (∀ a' w' μ' lx', R (listed.setIfInBounds i true) μ' lx' a' w' σ' → K a' w') → wpOp P ops Q i K a w)
    (Stp : Nat → Prop) (hSt : ∀ i, Stp i → i + 1 = ops.size ∧ ∀ j, j < i → befL ops.toList j i = true)
    (hStop : ∀ (listed : Array Bool) (i : Nat) (o : Oper) (a : Act) (w : World) (μ : Gh) (lx : Nat → Option Nat) (σ : St) (K : Act → World → Prop), Stp i → ops[i]? = some o → R listed μ lx a w σ → Sim B T0 μ0 w0 N μ lx a w (f i) → wpOp P ops Q i K a w)
    (hfE : ∀ (i : Nat) (o : Oper), ops.toList[i]? = some o → StepE P hh C (allocDs ops.toList) ops.toList o (f i) (f (i + 1)))
    (hf : ∀ (i : Nat) (o : Oper), ops.toList[i]? = some o → ¬ Stp i → StepD P hh C (allocDs ops.toList) ops.toList o (f i) (f (i + 1)))
    (hn0 : ((f 0).t.map (·.1)).Nodup) (h0 : ∀ i v, look (f 0).t i = some v → ∀ d ∈ allocDs ops.toList, isLp d v = false)
    (hQ : (∀ i, ¬ Stp i) → ∀ μ' lx' a' w', Sim B T0 μ0 w0 N μ' lx' a' w' (f ops.size) → Q .normal a' w') :
    ∀ (fuel : Nat) (listed : Array Bool) (a : Act) (w : World) (μ : Gh) (lx : Nat → Option Nat) (σ : St), listed.size = ops.size → cnt (fun i => listed.getD i false) ops.size = fuel →
      (∀ j o, ops[j]? = some o → listed.getD j false = true → ∀ e ∈ o.after, Region.binds .any e = true → listed.getD e.on false = true) →
      (∀ i, Stp i → listed.getD i false = false) → R listed μ lx a w σ →
      (∀ x, look σ.t x = last (fun i => listed.getD i false) (fun k => match ops[k]? with | some o => (wrT hh o).contains x | none => false) (fun k => look (f k).t x) ops.size) →
      (∀ d, look σ.l d = last (fun i => listed.getD i false) (fun k => match ops[k]? with | some o => boxW hh o == some d | none => false) (fun k => look (f k).l d) ops.size) →
      σ.s = last (fun i => listed.getD i false) (fun k => match ops[k]? with | some o => allowS hh o | none => false) (fun k => (f k).s) ops.size → wpAny P .any ops Q fuel listed a w := by
  have hfa : ∀ (i : Nat) (o : Oper), ops[i]? = some o → StepE P hh C (allocDs ops.toList) ops.toList o (f i) (f (i + 1)) := fun i o h => hfE i o (by simpa using h)
  have hnd : ∀ i, i ≤ ops.size → ((f i).t.map (·.1)).Nodup := by
    intro i
    induction i with
    | zero => intro _; exact hn0
    | succ i ih =>
      intro hi
      have hs := hfa i ops[i] (Array.getElem?_eq_getElem (by omega))
      exact qj2 hs (ih (by omega))
  have frT : ∀ x k, k < ops.size → (match ops[k]? with | some o => (wrT hh o).contains x | none => false) = false → look (f (k + 1)).t x = look (f k).t x := by
    intro x k hk hw
    have ho : ops[k]? = some ops[k] := by simp [hk]
    rw [ho] at hw
    exact (qdr (hfa k _ ho)).1 x (by simpa using hw)
  have frL : ∀ d k, k < ops.size → (match ops[k]? with | some o => boxW hh o == some d | none => false) = false → look (f (k + 1)).l d = look (f k).l d := by
    intro d k hk hw
    have ho : ops[k]? = some ops[k] := by simp [hk]
    rw [ho] at hw
    exact (qdr (hfa k _ ho)).2 d (by simpa using hw)
  have frS : ∀ k, k < ops.size → (match ops[k]? with | some o => allowS hh o | none => false) = false → (f (k + 1)).s = (f k).s := by
    intro k hk hw
    have ho : ops[k]? = some ops[k] := by simp [hk]
    rw [ho] at hw
    exact qn5 (hfa k _ ho) hw
  have done : ∀ (listed : Array Bool) (a : Act) (w : World) (μ : Gh) (lx : Nat → Option Nat) (σ : St), (∀ i, Stp i → listed.getD i false = false) → (∀ k, k < ops.size → listed.getD k false = true) → Sim B T0 μ0 w0 N μ lx a w σ →
      (∀ x, look σ.t x = last (fun i => listed.getD i false) (fun k => match ops[k]? with | some o => (wrT hh o).contains x | none => false) (fun k => look (f k).t x) ops.size) →
      (∀ d, look σ.l d = last (fun i => listed.getD i false) (fun k => match ops[k]? with | some o => boxW hh o == some d | none => false) (fun k => look (f k).l d) ops.size) →
      σ.s = last (fun i => listed.getD i false) (fun k => match ops[k]? with | some o => allowS hh o | none => false) (fun k => (f k).s) ops.size → Q .normal a w := by
    intro listed a w μ lx σ hns hall hs ht hl hss
    have hno : ∀ i, ¬ Stp i := fun i hi => by
      have := hall i (by have := (hSt i hi).1; omega)
      rw [hns i hi] at this; cases this
    have hss' : σ.s = (f ops.size).s := by
      rw [hss]; exact qbf (i := ops.size) (fun k hk => frS k hk) _ (Nat.le_refl _) (fun k hk _ => hall k hk) (fun k h1 h2 => by omega)
    refine hQ hno μ lx a w (hs.le ⟨fun i v e => ⟨v, ?_, .inl rfl⟩, fun d cs e => ⟨cs, ?_, CLe.refl _⟩, fun b cs e => ⟨cs, ?_, CLe.refl _⟩, ?_, fun _ => hnd _ (Nat.le_refl _)⟩)
    · rw [ht, qbf (i := ops.size) (fun k hk => frT i k hk) _ (Nat.le_refl _) (fun k hk _ => hall k hk) (fun k h1 h2 => by omega)]; exact e
    · rw [hl, qbf (i := ops.size) (fun k hk => frL d k hk) _ (Nat.le_refl _) (fun k hk _ => hall k hk) (fun k h1 h2 => by omega)]; exact e
    · rw [hss']; exact e
    · rw [hss']; exact Nat.le_refl _
  have noready : ∀ (listed : Array Bool), listed.size = ops.size → Region.ready .any ops listed = [] → ∀ k, k < ops.size → listed.getD k false = true := by
    intro listed hsz hr k
    induction k using Nat.strongRecOn with
    | _ k ih =>
      intro hk
      cases hc : listed.getD k false with
      | true => rfl
      | false =>
        have hpk : ops[k]? = some ops[k] := Array.getElem?_eq_getElem hk
        have : k ∈ Region.ready .any ops listed := mem_ready.2 ⟨by
          rw [Array.getD_eq_getD_getElem?] at hc ⊢
          have : k < listed.size := by omega
          simp [this] at hc ⊢; exact hc, ops[k], hpk, fun e he hb => ih e.on ((qav hok hpk).1 e he hb) (by
            have := (qav hok hpk).1 e he hb
            omega)⟩
        rw [hr] at this; cases this
  intro fuel
  induction fuel with
  | zero =>
    intro listed a w μ lx σ hsz hcnt hcl hns hs ht hl hss
    have hall := qrn _ hcnt
    refine ⟨?_, done listed a w μ lx σ hns hall (hRs _ _ _ _ _ _ hs) ht hl hss⟩
    cases hr : Region.ready .any ops listed with
    | nil => rfl
    | cons i r =>
      have hi : i ∈ Region.ready .any ops listed := by rw [hr]; simp
      obtain ⟨h1, o, h2, _⟩ := mem_ready.1 hi
      have hlt : i < ops.size := (Array.getElem?_eq_some_iff.1 h2).1
      have := hall i hlt
      rw [Array.getD_eq_getD_getElem?] at this h1
      have hl' : i < listed.size := by omega
      simp [hl'] at this h1
      rw [h1] at this; cases this
  | succ fuel ih =>
    intro listed a w μ lx σ hsz hcnt hcl hns hs ht hl hss
    have hs' := hs
    replace hs := hRs _ _ _ _ _ _ hs
    refine ⟨fun hr => done listed a w μ lx σ hns (noready listed hsz hr) hs ht hl hss, fun i hi => ?_⟩
    obtain ⟨h1, o, ho, hpre⟩ := mem_ready.1 hi
    have hlt : i < ops.size := (Array.getElem?_eq_some_iff.1 ho).1
    have hlt' : i < listed.size := by omega
    have hSi : listed.getD i false = false := by
      rw [Array.getD_eq_getD_getElem?] at h1 ⊢
      simp [hlt'] at h1 ⊢; exact h1
    by_cases hstp : Stp i
    · have hall : ∀ k, k < i → listed.getD k false = true := fun k hk => qrm (S := fun k => listed.getD k false = true) hcl ho ((hSt i hstp).2 k hk) hpre
      have hlate : ∀ k, i ≤ k → k < ops.size → listed.getD k false = false := fun k h1 h2 => by
        have := (hSt i hstp).1
        have hki : k = i := by omega
        rw [hki]; exact hSi
      refine hStop listed i o a w μ lx σ _ hstp ho hs' (hs.le ⟨fun x v e => ⟨v, ?_, .inl rfl⟩, fun d cs e => ⟨cs, ?_, CLe.refl _⟩, fun b cs e => ⟨cs, ?_, CLe.refl _⟩, ?_, fun _ => hnd _ (by omega)⟩)
      · rw [ht, qbf (i := i) (fun k hk => frT x k (by omega)) _ (by omega) (fun k hk _ => hall k hk) (fun k h1 h2 _ => hlate k h1 h2)]; exact e
      · rw [hl, qbf (i := i) (fun k hk => frL d k (by omega)) _ (by omega) (fun k hk _ => hall k hk) (fun k h1 h2 _ => hlate k h1 h2)]; exact e
      · rw [hss, qbf (i := i) (fun k hk => frS k (by omega)) _ (by omega) (fun k hk _ => hall k hk) (fun k h1 h2 _ => hlate k h1 h2)]; exact e
      · rw [hss, qbf (i := i) (fun k hk => frS k (by omega)) _ (by omega) (fun k hk _ => hall k hk) (fun k h1 h2 _ => hlate k h1 h2)]; exact Nat.le_refl _
    have hD := hf i o (by simpa using ho) hstp
    have early : ∀ k p, k < i → ops[k]? = some p → conf hh ops p o = true → listed.getD k false = true := by
      intro k p hk hp hc
      exact qev (S := fun k => listed.getD k false = true) hcl ho (((qav hok ho).2 k p hk hp).1 hc) hpre
    have late : ∀ k p, i < k → ops[k]? = some p → conf hh ops o p = true → listed.getD k false = false := by
      intro k p hk hp hc
      cases hq : listed.getD k false with
      | false => rfl
      | true =>
        have := qev (S := fun k => listed.getD k false = true) hcl hp (((qav hok hp).2 i o hk ho).1 hc) (hcl k p hp hq)
        rw [hSi] at this; cases this
    have agT : ∀ x, x ∈ o.looksAt ops → mvM hh false o ≠ some x → look σ.t x = look (f i).t x := by
      intro x hx hne
      have hne' : (mvM hh false o == some x) = false := by simpa using hne
      rw [ht]
      refine qbf (fun k hk => frT x k (by omega)) _ (Nat.le_of_lt hlt) (fun k hk hw => ?_) (fun k h1 h2 hw => ?_)
      · have hp : ops[k]? = some ops[k] := Array.getElem?_eq_getElem (by omega)
        rw [hp] at hw
        refine early k _ hk hp ?_
        unfold conf
        have : (wrT hh ops[k]).any (fun x => ((o.looksAt ops).contains x && !(mvM hh false o == some x && mvM hh true ops[k] == some x)) || (wrT hh o).contains x) = true := List.any_eq_true.2 ⟨x, by simpa using hw, by simp [hx, hne']⟩
        simp only [this, Bool.true_or, Bool.or_true]
      · by_cases hki : k = i
        · subst hki; exact hSi
        · have hp : ops[k]? = some ops[k] := Array.getElem?_eq_getElem (by omega)
          rw [hp] at hw
          refine late k _ (by omega) hp ?_
          unfold conf
          have : (wrT hh ops[k]).any (fun x => (o.looksAt ops).contains x && !(mvM hh false o == some x && mvM hh true ops[k] == some x)) = true := List.any_eq_true.2 ⟨x, by simpa using hw, by simp [hx, hne']⟩
          simp only [this, Bool.true_or, Bool.or_true]
    have agT2 : ∀ x, mvM hh false o = some x → (look σ.t x).map dem = (look (f i).t x).map dem := by
      intro x hmv
      have hx : x ∈ o.looksAt ops := by
        obtain ⟨h1, _⟩ := qeu hmv
        exact List.mem_append_left _ (List.mem_filterMap.2 ⟨.tmp x, by simp [h1, Op.operands], rfl⟩)
      have frW : ∀ k, k < ops.size → (match ops[k]? with | some o => (wrT hh o).contains x && !(mvM hh true o == some x) | none => false) = false → (look (f (k + 1)).t x).map dem = (look (f k).t x).map dem := by
        intro k hk hw
        have hp : ops[k]? = some ops[k] := by simp [hk]
        rw [hp] at hw
        cases ha : (wrT hh ops[k]).contains x with
        | false => rw [(qdr (hfa k _ hp)).1 x (by simpa using ha)]
        | true =>
          simp only [ha, Bool.true_and, Bool.not_eq_false', beq_iff_eq] at hw
          exact qro (hfa k _ hp) hw
      rw [ht, qrk (fun v : Option AV => v.map dem)]
      rw [qn3 (W := fun k => match ops[k]? with | some o => (wrT hh o).contains x && !(mvM hh true o == some x) | none => false)]
      · refine qbf (v := fun k => (look (f k).t x).map dem) (fun k hk => frW k (by omega)) _ (Nat.le_of_lt hlt) (fun k hk hw => ?_) (fun k h1 h2 hw => ?_)
        · have hp : ops[k]? = some ops[k] := Array.getElem?_eq_getElem (by omega)
          rw [hp] at hw
          simp only [Bool.and_eq_true, Bool.not_eq_true'] at hw
          refine early k _ hk hp ?_
          unfold conf
          have : (wrT hh ops[k]).any (fun x => ((o.looksAt ops).contains x && !(mvM hh false o == some x && mvM hh true ops[k] == some x)) || (wrT hh o).contains x) = true := List.any_eq_true.2 ⟨x, by simpa using hw.1, by rw [hw.2]; simp [hx]⟩
          simp only [this, Bool.true_or, Bool.or_true]
        · by_cases hki : k = i
          · subst hki; exact hSi
          · have hp : ops[k]? = some ops[k] := Array.getElem?_eq_getElem (by omega)
            rw [hp] at hw
            simp only [Bool.and_eq_true, Bool.not_eq_true'] at hw
            refine late k _ (by omega) hp ?_
            unfold conf
            have : (wrT hh ops[k]).any (fun x => (o.looksAt ops).contains x && !(mvM hh false o == some x && mvM hh true ops[k] == some x)) = true := List.any_eq_true.2 ⟨x, by simpa using hw.1, by rw [hw.2]; simp [hx]⟩
            simp only [this, Bool.true_or, Bool.or_true]
      · intro k hw
        cases hp : ops[k]? with
        | none => rw [hp] at hw; cases hw
        | some p => rw [hp] at hw; simp only [Bool.and_eq_true] at hw ⊢; exact hw.1
      · exact fun k hk => frW k hk
      · intro j k hjk hk hj hak hsk
        have hp : ops[k]? = some ops[k] := Array.getElem?_eq_getElem (by omega)
        have hpj : ops[j]? = some ops[j] := Array.getElem?_eq_getElem (by omega)
        rw [hp] at hak
        rw [hpj] at hj
        have hc : conf hh ops ops[j] ops[k] = true := by
          unfold conf
          have : (wrT hh ops[j]).any (fun x => (((ops[k]).looksAt ops).contains x && !(mvM hh false ops[k] == some x && mvM hh true ops[j] == some x)) || (wrT hh ops[k]).contains x) = true := List.any_eq_true.2 ⟨x, by simpa using hj, by simp at hak; simp [hak]⟩
          simp only [this, Bool.true_or, Bool.or_true]
        exact qev (S := fun k => listed.getD k false = true) hcl hp (((qav hok hp).2 j _ hjk hpj).1 hc) (hcl k _ hp hsk)
    have agL : ∀ d, boxR hh o = some d ∨ boxW hh o = some d → look σ.l d = look (f i).l d := by
      intro d hd
      rw [hl]
      refine qbf (fun k hk => frL d k (by omega)) _ (Nat.le_of_lt hlt) (fun k hk hw => ?_) (fun k h1 h2 hw => ?_)
      · have hp : ops[k]? = some ops[k] := Array.getElem?_eq_getElem (by omega)
        rw [hp] at hw
        have hw : boxW hh ops[k] = some d := by simpa using hw
        refine early k _ hk hp ?_
        unfold conf
        rcases hd with hd | hd
        · have : meetB (boxW hh ops[k]) (boxR hh o) = true := qcw.2 ⟨d, hw, hd⟩
          simp only [this, Bool.true_or, Bool.or_true]
        · have : meetB (boxW hh ops[k]) (boxW hh o) = true := qcw.2 ⟨d, hw, hd⟩
          simp only [this, Bool.true_or, Bool.or_true]
      · by_cases hki : k = i
        · subst hki; exact hSi
        · have hp : ops[k]? = some ops[k] := Array.getElem?_eq_getElem (by omega)
          rw [hp] at hw
          have hw : boxW hh ops[k] = some d := by simpa using hw
          refine late k _ (by omega) hp ?_
          unfold conf
          rcases hd with hd | hd
          · have : meetB (boxR hh o) (boxW hh ops[k]) = true := qcw.2 ⟨d, hd, hw⟩
            simp only [this, Bool.true_or, Bool.or_true]
          · have : meetB (boxW hh o) (boxW hh ops[k]) = true := qcw.2 ⟨d, hd, hw⟩
            simp only [this, Bool.true_or, Bool.or_true]
    have alC : ∀ p : Oper, allowS hh p = true → seesS hh p = true ∧ plS hh p = false := by
      intro p hp
      constructor
      · unfold allowS at hp; simp only [Bool.and_eq_true] at hp; exact hp.1
      · cases hq : plS hh p with
        | false => rfl
        | true => obtain ⟨_, _, _, _, h, _⟩ := qhi hq; rw [hp] at h; cases h
    have agS2 : plS hh o = true → ∀ t x b off sh, o.op = .load t x → aeval (f i) x = some (.gp b off sh) → b < (f i).s.length → (σ.s[b]?).map (·.map dem1) = ((f i).s[b]?).map (·.map dem1) := by
      intro hpl t x b off sh hop hax hbi
      obtain ⟨_, _, _, _, _, hse⟩ := qhi hpl
      have hmv : mvM hh false o = none := by unfold mvM; rw [hop]
      have hax2 : aeval σ x = some (.gp b off sh) := by
        rw [← hax]
        cases x with
        | tmp y => exact agT y (List.mem_append_left _ (List.mem_filterMap.2 ⟨.tmp y, by rw [hop]; simp [Op.operands], rfl⟩)) (by rw [hmv]; simp)
        | _ => rfl
      have hbs : b < σ.s.length := by
        have hr := (qj hs hax2).1
        rcases Nat.lt_or_ge b σ.s.length with h | h
        · exact h
        · have := hs.gdom b h
          generalize a.eval x = vv at hr
          cases hr with
          | gp b i blk sh h1 h2 => rw [this] at h1; cases h1
      have seg : ∀ (j l : Nat), j ≤ l → l ≤ ops.size → (∀ k p, j ≤ k → k < l → ops[k]? = some p → allowS hh p = true → mvS hh p = true ∨ adS hh p = true) → ∀ b, b < (f j).s.length → b < (f l).s.length ∧ ((f l).s[b]?).map (·.map dem1) = ((f j).s[b]?).map (·.map dem1) := by
        intro j l hjl
        induction l with
        | zero => intro _ _ b hb; have : j = 0 := by omega
                  subst this; exact ⟨hb, rfl⟩
        | succ l ih =>
          intro hl hk b hb
          by_cases hjl' : j = l + 1
          · subst hjl'; exact ⟨hb, rfl⟩
          · obtain ⟨i1, i2⟩ := ih (by omega) (by omega) (fun k p h1 h2 => hk k p h1 (by omega)) b hb
            have hp : ops[l]? = some ops[l] := Array.getElem?_eq_getElem (by omega)
            have hE := hfa l _ hp
            cases ha : allowS hh ops[l] with
            | false => rw [qn5 hE ha]; exact ⟨i1, i2⟩
            | true =>
              rcases hk l _ (by omega) (by omega) hp ha with h | h
              · have hd := qrp hE h
                have hlen : (f (l + 1)).s.length = (f l).s.length := by have := congrArg List.length hd; simpa [dS] using this
                exact ⟨by rw [hlen]; exact i1, (qxl hd b).trans i2⟩
              · have hd := qrq hE h
                have hlen : (f l).s.length ≤ (f (l + 1)).s.length := by have := congrArg List.length hd; simp at this; omega
                refine ⟨by omega, ?_⟩
                have hq : (f l).s[b]? = (f (l + 1)).s[b]? := by
                  have : (List.take (f l).s.length (f (l + 1)).s)[b]? = (f l).s[b]? := by rw [hd]
                  rw [← this, List.getElem?_take, if_pos i1]
                rw [← i2, hq]
      obtain ⟨q, hq1, hq2, hq3, hq4⟩ := qrr (S := fun i => listed.getD i false) (W := fun k => match ops[k]? with | some o => allowS hh o | none => false) (v := fun k => (f k).s) ops.size
      have hσ : σ.s = (f q).s := hss.trans hq1
      rw [hσ] at hbs ⊢
      have hoi : allowS hh o = false := by
        cases hh2 : allowS hh o with
        | false => rfl
        | true => have := (alC o hh2).2; rw [hpl] at this; cases this
      rcases Nat.lt_or_ge i q with hiq | hiq
      · -- a later one was done
        rcases hq4 with rfl | ⟨k0, rfl, hS0, hW0⟩
        · omega
        have hp0 : ops[k0]? = some ops[k0] := Array.getElem?_eq_getElem (by omega)
        simp only [hp0] at hW0
        have hS0 : listed.getD k0 false = true := hS0
        have hne : k0 ≠ i := fun e => by subst e; rw [hSi] at hS0; cases hS0
        refine ((seg i (k0 + 1) (by omega) hq2 (fun k p h1 h2 hp ha => ?_) b hbi).2)
        by_cases hki : k = i
        · subst hki; rw [ho] at hp; injection hp with hp; subst hp; rw [hoi] at ha; cases ha
        cases hm : mvS hh p with
        | true => exact .inl rfl
        | false =>
          cases hd : adS hh p with
          | true => exact .inr rfl
          | false =>
            exfalso
            have hl1 : listed.getD k false = false := by
              refine late k p (by omega) hp ?_
              unfold conf
              simp only [ha, hm, hd, hse, Bool.or_false, Bool.and_false, Bool.not_false, Bool.and_true, Bool.true_or, Bool.or_true]
            by_cases hk0 : k = k0
            · subst hk0; rw [hl1] at hS0; cases hS0
            · have hc : conf hh ops p ops[k0] = true := by
                unfold conf
                simp only [ha, (alC _ hW0).1, (alC _ hW0).2, Bool.and_false, Bool.false_and, Bool.not_false, Bool.and_true, Bool.true_or, Bool.or_true]
              have := qev (S := fun k => listed.getD k false = true) hcl hp0 (((qav hok hp0).2 k _ (by omega) hp).1 hc) (hcl k0 _ hp0 hS0)
              rw [hl1] at this; cases this
      · refine ((seg q i hiq (by omega) (fun k p h1 h2 hp ha => ?_) b hbs).2).symm
        have hW : (match ops[k]? with | some o => allowS hh o | none => false) = true := by rw [hp]; exact ha
        have hns := hq3 k h1 (by omega)
        simp only [hW, Bool.and_true] at hns
        cases hm : mvS hh p with
        | true => exact .inl rfl
        | false =>
          cases hd : adS hh p with
          | true => exact .inr rfl
          | false =>
            exfalso
            have hl1 : listed.getD k false = true := by
              refine early k p h2 hp ?_
              unfold conf
              simp only [ha, hm, hd, hse, Bool.or_false, Bool.false_and, Bool.not_false, Bool.and_true, Bool.true_or, Bool.or_true]
            rw [hl1] at hns; cases hns
    have agS : seesS hh o = true → plS hh o = false → σ.s = (f i).s := by
      intro hse hpl
      rw [hss]
      refine qbf (fun k hk => frS k (by omega)) _ (Nat.le_of_lt hlt) (fun k hk hw => ?_) (fun k h1 h2 hw => ?_)
      · have hp : ops[k]? = some ops[k] := Array.getElem?_eq_getElem (by omega)
        rw [hp] at hw
        refine early k _ hk hp ?_
        unfold conf
        simp only [show allowS hh ops[k] = true from hw, hse, hpl, Bool.and_false, Bool.false_and, Bool.not_false, Bool.and_true, Bool.true_or, Bool.or_true]
      · by_cases hki : k = i
        · subst hki; exact hSi
        · have hp : ops[k]? = some ops[k] := Array.getElem?_eq_getElem (by omega)
          rw [hp] at hw
          refine late k _ (by omega) hp ?_
          unfold conf
          simp only [show allowS hh ops[k] = true from hw, hse, hpl, Bool.and_false, Bool.false_and, Bool.not_false, Bool.and_true, Bool.true_or, Bool.or_true]
    have noL : ∀ d, isAlloc o = true → o.dst = some d → noLp d σ.t = true := by
      intro d ha hd
      have hmem : mem (allocDs ops.toList) d = true := qjz (i := i) (by simpa using ho) ha hd
      refine qnz hs.nd fun x v hv => ?_
      rw [ht] at hv
      cases hq : isLp d v with
      | false => rfl
      | true =>
        rcases qhh (S := fun i => listed.getD i false) (W := fun k => match ops[k]? with | some o => (wrT hh o).contains x | none => false) (v := fun k => look (f k).t x) ops.size with e | ⟨k, hk, hS, hWk, e⟩
        · rw [e] at hv
          have := h0 x v hv d ((mem_iff _ _).1 hmem)
          rw [hq] at this; cases this
        · rw [e] at hv
          have hp : ops[k]? = some ops[k] := by simp [hk]
          simp only [hp] at hWk
          obtain ⟨a1, a2⟩ := qma (i := k) (hfa k _ hp) (hnd k (by omega)) (by simpa using hp) (x := x) (d := d) (by simpa using hWk) hmem hv hq
          have hki : k ≠ i := fun e => by subst e; rw [hSi] at hS; cases hS
          rcases Nat.lt_or_gt_of_ne hki with h | h
          · exact absurd ⟨a1, ha, a2.trans hd.symm⟩ ((qav hok ho).2 k _ h hp).2
          · exact absurd ⟨ha, a1, hd.trans a2.symm⟩ ((qav hok hp).2 i o h ho).2
    obtain ⟨σ', hstep, hal, hsr⟩ : ∃ st2', qn1 P hh C ops.toList o σ st2' ∧ Alike (wrT hh o) (boxW hh o) (f (i + 1)) σ st2' ∧ (((f (i + 1)).s = (f i).s ∧ st2'.s = σ.s) ∨ (seesS hh o = true ∧ plS hh o = false ∧ st2'.s = (f (i + 1)).s)) := by
      cases hpm : mvM hh false o with
      | some x => exact qrj hD hpm (agT2 x hpm)
      | none =>
        have agT' := fun x hx => agT x hx (by rw [hpm]; simp)
        have hg : wantedA ops.toList o.guard σ = wantedA ops.toList o.guard (f i) := by
          unfold wantedA
          cases hgo : o.guard with
          | none => rfl
          | some p =>
            obtain ⟨j, want⟩ := p
            simp only
            split
            · rename_i d hd
              rw [qk7] at hd
              have : look σ.t d = look (f i).t d := agT' d (List.mem_append_right _ (by simp [hgo]; simpa using hd))
              rw [this]
            · rfl
        exact qi0 hD (fun x hx => by
          cases x with
          | tmp t => exact agT' t (List.mem_append_left _ (List.mem_filterMap.2 ⟨.tmp t, by simpa using hx, rfl⟩))
          | _ => rfl) agS agS2 agL noL hg
    have hS' : ∀ k, (listed.setIfInBounds i true).getD k false = (listed.getD k false || decide (k = i)) := by
      intro k
      by_cases hk : k = i
      · subst hk; simp [hlt']
      · rw [getD_set_ne false (fun e => hk e.symm)]; simp [hk]
    have next : ∀ a' w' μ' lx', R (listed.setIfInBounds i true) μ' lx' a' w' σ' → wpAny P .any ops Q fuel (listed.setIfInBounds i true) a' w' := by
      intro a' w' μ' lx' hsim
      refine ih _ a' w' μ' lx' σ' (by simp [hsz]) ?_ ?_ (fun q hq => by rw [hS']; simp only [hns q hq, Bool.false_or, decide_eq_false_iff_not]; intro e; subst e; exact hstp hq) hsim (fun x => ?_) (fun d => ?_) ?_
      · have := quf (S := fun i => listed.getD i false) (S' := fun k => (listed.setIfInBounds i true).getD k false) hS' hSi ops.size
        rw [if_pos hlt] at this; omega
      · intro j p hp hj e he hb
        rw [hS'] at hj ⊢
        simp only [Bool.or_eq_true, decide_eq_true_eq] at hj ⊢
        rcases hj with hj | rfl
        · exact .inl (hcl j p hp hj e he hb)
        · rw [ho] at hp; injection hp with hp; subst hp; exact .inl (hpre e he hb)
      · rw [qhg (S := fun i => listed.getD i false) hS' ops.size hlt, hal.t x]
        · simp only [ho]
          by_cases hx : x ∈ wrT hh o
          · simp [hx]
          · simp [hx, ht x]
        · intro hw k h1 h2 hwk
          have hp : ops[k]? = some ops[k] := by simp [h2]
          simp only [ho] at hw
          simp only [hp] at hwk
          refine late k _ h1 hp ?_
          unfold conf
          have : (wrT hh o).any (fun x => ((ops[k].looksAt ops).contains x && !(mvM hh false ops[k] == some x && mvM hh true o == some x)) || (wrT hh ops[k]).contains x) = true := List.any_eq_true.2 ⟨x, by simpa using hw, by simp at hwk; simp [hwk]⟩
          simp only [this, Bool.true_or, Bool.or_true]
      · rw [qhg (S := fun i => listed.getD i false) hS' ops.size hlt, hal.l d]
        · simp only [ho]
          by_cases hx : boxW hh o = some d
          · simp [hx]
          · simp [hx, hl d]
        · intro hw k h1 h2 hwk
          have hp : ops[k]? = some ops[k] := by simp [h2]
          simp only [ho] at hw
          simp only [hp] at hwk
          refine late k _ h1 hp ?_
          unfold conf
          have : meetB (boxW hh o) (boxW hh ops[k]) = true := qcw.2 ⟨d, by simpa using hw, by simpa using hwk⟩
          simp only [this, Bool.true_or, Bool.or_true]
      · rw [qhg (S := fun i => listed.getD i false) hS' ops.size hlt]
        · simp only [ho]
          cases ha : allowS hh o with
          | true =>
            simp only [if_true]
            have hse : seesS hh o = true := by unfold allowS at ha; simp only [Bool.and_eq_true] at ha; exact ha.1
            rcases hsr with ⟨q1, q2⟩ | ⟨_, _, q2⟩
            · rw [q2, agS hse (alC o ha).2, q1]
            · exact q2
          | false =>
            simp only [Bool.false_eq_true, if_false]
            rw [← hss]
            rcases hsr with ⟨q1, q2⟩ | ⟨hse, hpl, q2⟩
            · exact q2
            · rw [q2, qn4 hD ha, agS hse hpl]
        · intro hw k h1 h2 hwk
          have hp : ops[k]? = some ops[k] := by simp [h2]
          simp only [ho] at hw
          simp only [hp] at hwk
          refine late k _ h1 hp ?_
          unfold conf
          simp only [hw, (alC _ hwk).1, (alC _ hwk).2, Bool.and_false, Bool.false_and, Bool.not_false, Bool.and_true, Bool.true_or, Bool.or_true]
    exact hRn listed i o a w μ lx σ σ' _ ho hlt' hSi hpre hs' hstep next
theorem qmb {T0:Nat→Prop} {μ0:Gh} {w0:World} {N:Nat} {ops:Array Oper} {f:Nat→St} {Q:Exit→Act→World→Prop} (hok:drawOk hh ops=true) (hN:opsOk N ops.toList=true)
  (hW:Below B W0 w0) (hC:OracleOk P B W0 C)
  (hf:∀(i:Nat) (o:Oper),ops.toList[i]? = some o→StepD P hh C (allocDs ops.toList) ops.toList o (f i) (f (i+1)))
  (hn0:((f 0).t.map (·.1)).Nodup) (h0:∀i v,look (f 0).t i=some v→∀d∈allocDs ops.toList,isLp d v=false)
  (hQ:∀μ' lx' a' w',Sim B T0 μ0 w0 N μ' lx' a' w' (f ops.size)→Q .normal a' w') :
  ∀(fuel:Nat) (listed:Array Bool) (a:Act) (w:World) (μ:Gh) (lx:Nat→Option Nat) (σ:St),listed.size=ops.size→cnt (fun i=>listed.getD i false) ops.size=fuel →
   (∀j o,ops[j]? = some o→listed.getD j false=true→∀e∈o.after,Region.binds .any e=true→listed.getD e.on false=true) →
   Sim B T0 μ0 w0 N μ lx a w σ →
   (∀x,look σ.t x=last (fun i=>listed.getD i false) (fun k=>match ops[k]? with|some o=>(wrT hh o).contains x|none=>false) (fun k=>look (f k).t x) ops.size) →
   (∀d,look σ.l d=last (fun i=>listed.getD i false) (fun k=>match ops[k]? with|some o=>boxW hh o==some d|none=>false) (fun k=>look (f k).l d) ops.size) →
   σ.s=last (fun i=>listed.getD i false) (fun k=>match ops[k]? with|some o=>allowS hh o|none=>false) (fun k=>(f k).s) ops.size→wpAny P .any ops Q fuel listed a w :=
 fun fuel listed a w μ lx σ h1 h2 h3 h4=>qfk (R:=fun _ μ lx a w σ=>Sim B T0 μ0 w0 N μ lx a w σ) hok (fun _ _ _ _ _ _ h=>h) (fun listed i o a w μ lx σ σ' K ho _ hSi hpre hs hstep next=>by
  have hdN:=qi1 hN (i:=i) (o:=o) (by simpa using ho)
  unfold wpOp
  rw[ho]
  simp only
  rcases hstep with ⟨hw,hst⟩|⟨hw,hst⟩
  ·rw[qaf hs hw]
   exact .inl (qbn hs hW hC hdN hst _ _ fun μ' lx' a' w' hsim=>next a' w' μ' lx' hsim)
  ·rw[qaf hs hw]
   simp only[Bool.false_eq_true,if_false]
   refine next _ _ μ lx ?_
   subst hst
   exact qb7 hs hdN) (fun _=>False) (fun _ h=>h.elim) (fun _ _ _ _ _ _ _ _ _ h=>h.elim) (fun i o h=>.inl (hf i o h)) (fun i o h _=>hf i o h) hn0 h0 (fun _=>hQ) fuel listed a w μ lx σ h1 h2 h3 (fun _ h=>h.elim) h4
theorem qaj (hm:P.follows .mixedOrders=true):DrawOk P B W0 hh C:=by
 intro T0 μ0 w0 N id ops st st' μ lx a w Q hW hC h hok hN e k
 unfold regionA at e
 rw[if_pos rfl] at e
 obtain⟨f,h1,h2,h3⟩:=qgy _ e
 refine wp_region_any hm ?_
 have hdr:({w with drawn:=w.drawn+1}:World)=w.drew:=rfl
 rw[hdr]
 have hs0:Sim B T0 μ0 w0 N μ lx a w.drew (f 0):=by
  rw[h1]
  have:=h.drew.1
  obtain⟨k1,k2⟩:=qbx (allocDs ops.toList) st.t h.nd
  exact this.sub (fun i v e=>(k2 i v e).1) k1 fun d cs e=>e
 have hsz:f ops.size=st':=by rw[← h2];simp
 have hno:∀i,(Array.replicate ops.size false).getD i false=false:=fun i=>by
  rw[Array.getD_eq_getD_getElem?]
  by_cases hi:i<ops.size<;>simp[hi]
 have hlast:∀{α:Type} (W:Nat→Bool) (v:Nat→α) n,last (fun i=>(Array.replicate ops.size false).getD i false) W v n=v 0:=by
  intro α W v n
  rcases qhh (S:=fun i=>(Array.replicate ops.size false).getD i false) (W:=W) (v:=v) n with e|⟨k,_,hS,_⟩
  ·exact e
  ·simp only[hno] at hS;cases hS
 refine qmb hok hN hW hC h3 hs0.nd ?_ (fun μ' lx' a' w' hs=>k μ' lx' a' w' (by rw[← hsz];exact hs)) ops.size _ a _ μ lx (f 0) (by simp) ?_ ?_ hs0 (fun x=>(hlast _ (fun k=>look (f k).t x) _).symm) (fun d=>(hlast _ (fun k=>look (f k).l d) _).symm) (hlast _ (fun k=>(f k).s) _).symm
 ·intro i v e d hd
  rw[h1] at e
  exact ((qbx (allocDs ops.toList) st.t h.nd).2 i v e).2 d hd
 ·have:∀n,cnt (fun i=>(Array.replicate ops.size false).getD i false) n=n:=by
   intro n
   induction n with
   | zero=>rfl
   | succ n ih =>
    show cnt _ n+(if (Array.replicate ops.size false).getD n false=true then 0 else 1)=n+1
    rw[ih,hno];rfl
  exact this _
 ·intro j o _ hj
  rw[hno] at hj;cases hj
end
end Go.AI
end
section
namespace Go.AI
set_option linter.unusedVariables false
universe u
theorem nrfl {α:Sort u} {a b:α} (h:a=b):a=b:=h
@[congr] theorem qxn {α β:Type} {x y:Option α} {f:α→Option β} (e:x=y):bnd x f=bnd y f:=by rw[e]
@[congr] theorem thenE_congr {x y:Option (Ex×St)} {k:St→Option (Ex×St)} (e:x=y):thenE x k=thenE y k:=by rw[e]
@[congr] theorem qug {α:Type} {c d:Option AV} {x y:Option α} (e:c=d):condE c x y=condE d x y:=by rw[e]
@[congr] theorem qxo {α:Type} {c d:Option Bool} {x y:Option α} (e:c=d):sel c x y=sel d x y:=by rw[e]
section
variable {P:Program} {h:Hint} {C:Oracle} {st:St}
@[congr] theorem qwn {c:Code} {s t:St} (e:s=t):EXEC P h C c s=EXEC P h C c t:=by rw[e]
@[congr] theorem qte {a b:List Oper} {s t:St} (e:s=t):runOps P h C a b s=runOps P h C a b t:=by rw[e]
@[congr] theorem qwo {ds:List Nat} {a b:List Oper} {s t:St} (e:s=t):runD P h C ds a b s=runD P h C ds a b t:=by rw[e]
@[congr] theorem finE_congr {fn:Func} {s0:List (List AV)} {x y:Option (Ex×St)} (e:x=y):finE P h s0 fn x=finE P h s0 fn y:=by rw[e]
@[simp] theorem q7 {α β:Type} (a:α) (f:α→Option β):bnd (some a) f=f a:=nrfl rfl
@[simp] theorem qrs {α β:Type} (f:α→Option β):bnd none f=none:=nrfl rfl
theorem qv {α β γ:Type} (x:Option α) (f:α→Option β) (g:β→Option γ):bnd (bnd x f) g=bnd x fun a=>bnd (f a) g:=by cases x<;>rfl
@[simp] theorem thenE_normal (st:St) (k):thenE (some (.normal,st)) k=k st:=nrfl rfl
@[simp] theorem thenE_ret (st:St) (k):thenE (some (.ret,st)) k=some (.ret,st):=nrfl rfl
@[simp] theorem thenE_exit (st:St) (i k):thenE (some (.exit i,st)) k=some (.exit i,st):=nrfl rfl
@[simp] theorem thenE_none (k):thenE none k=none:=nrfl rfl
@[simp] theorem qj3 (st:St) (i):blkE i (some (.normal,st))=some (.normal,st):=nrfl rfl
@[simp] theorem qrt (st:St) (i):blkE i (some (.ret,st))=some (.ret,st):=nrfl rfl
@[simp] theorem qn6 (st:St) (i j):blkE i (some (.exit j,st))=if j=i then some (.normal,st) else some (.exit j,st):=nrfl rfl
@[simp] theorem qmc {α:Type} (b:Bool) (x y:Option α):condE (some (.bool b)) x y=if b=true then x else y:=by cases b<;>rfl
@[simp] theorem qlc {α:Type} (x y:Option α):sel (some true) x y=x:=nrfl rfl
@[simp] theorem qi2 {α:Type} (x y:Option α):sel (some false) x y=y:=nrfl rfl
def strict {α:Type} (x:St) (f:St→α):α:=f x
@[congr] theorem qtf {α:Type} {x y:St} {f:St→α} (e:x=y):strict x f=strict y f:=by rw[e]
@[simp] theorem qxp {α:Type} {t:List (Nat×AV)} {l:List (Nat×List AV)} {s:List (List AV)} {f:St→α}:strict ⟨t,l,s⟩ f=f ⟨t,l,s⟩:=nrfl rfl
def ms0 {α:Type} (b:Bool) (x:Option α):Option α:=if b then none else x
@[congr] theorem qxq {α:Type} {b c:Bool} {x:Option α} (e:b=c):ms0 b x=ms0 c x:=by rw[e]
@[simp ↓] theorem qag {α:Type} {x:Option α}:ms0 false x=x:=nrfl rfl
@[simp ↓] theorem qap {α:Type} {x:Option α}:ms0 true x=none:=nrfl rfl
def ms2 {α:Type} (b:Bool) (x y:Option α):Option α:=if b then x else y
@[congr] theorem qxr {α:Type} {b c:Bool} {x y:Option α} (e:b=c):ms2 b x y=ms2 c x y:=by rw[e]
@[simp ↓] theorem qb8 {α:Type} {x y:Option α}:ms2 false x y=y:=nrfl rfl
@[simp ↓] theorem qc5 {α:Type} {x y:Option α}:ms2 true x y=x:=nrfl rfl
def qfl {α:Type} (x:List Nat) (f:List Nat→α):α:=f x
@[congr] theorem qru {α:Type} {x y:List Nat} {f:List Nat→α} (e:x=y):qfl x f=qfl y f:=by rw[e]
@[simp] theorem quh {α:Type} {f:List Nat→α}:qfl [] f=f []:=nrfl rfl
@[simp] theorem qtg {α:Type} {x:Nat} {r:List Nat} {f:List Nat→α}:qfl (x::r) f=f (x::r):=nrfl rfl
@[simp ↓] theorem qwp {ops}:runOps P h C ops [] st=some st:=nrfl rfl
@[simp ↓] theorem qui {ops o r}:runOps P h C ops (o::r) st=sel (wantedA ops o.guard st) (bnd (stepOp P h C o st) fun st=>runOps P h C ops r st) (strict (st.put o.dst (.tup [])) fun st=>runOps P h C ops r st):=nrfl rfl
@[simp ↓] theorem runD_nil {ds ops}:runD P h C ds ops [] st=some st:=nrfl rfl
@[simp ↓] theorem qxs {ds ops o r} : runD P h C ds ops (o :: r) st = sel (wantedA ops o.guard st)
      (bnd (if preD h o st = true then stepOp P h C o st else none) fun st' => need ((allowS h o = true ∨ st'.s = st.s) ∧ (adS h o = true → st'.s.take st.s.length = st.s)) (if postD h ds o st'.t = true then runD P h C ds ops r st' else none))
      (if okAll ds st.t (tkT h o).toList = true then strict (st.put o.dst (.tup [])) (fun st => runD P h C ds ops r st) else none) := nrfl rfl
theorem ql {α:Type} {p:Prop} {x:Option α} (hp:p):need p x=x:=by unfold need;rw[if_pos hp]
@[simp] theorem qn7 {α:Type} (x:Option α):need True x=x:=ql trivial
section
variable {d:Option Tmp} {n:Nat} {T:TypeId} {pos:String} {af:Array Edge} {g:Option (Nat×Bool)}
@[simp ↓] theorem quj {x}:stepOp P h C ⟨d,.assign x,T,pos,af,g⟩ st=ms0 (isMs h d) (bnd (takeOp st x) fun p=>bnd (norm P T p.1) fun v=>some (p.2.put d v)):=by
 cases hm:isMs h d
 ·rw[qag];simp only[stepOp,hm,Bool.false_eq_true,if_false,opVal,qv,q7]
 ·rw[qap];simp only[stepOp,hm,if_true];rfl
@[simp ↓] theorem qxt {x}:stepOp P h C ⟨d,.move x,T,pos,af,g⟩ st=ms0 (isMs h d) (bnd (lend st x (steals h d)) fun p=>some (p.2.put d p.1)):=by
 cases hm:isMs h d
 ·rw[qag];simp only[stepOp,hm,Bool.false_eq_true,if_false,opVal]
 ·rw[qap];simp only[stepOp,hm,if_true];rfl
@[simp ↓] theorem qth {x i}:stepOp P h C ⟨d,.extract x i,T,pos,af,g⟩ st=ms0 (isMs h d) (bnd (lend st x (steals h d)) fun p=>bnd (match p.1 with
  | .tup vs=>bnd vs[i]? fun v=>if pers v=true then some (v,p.2) else none
  | _=>none) fun p=>some (p.2.put d p.1)):=by
 cases hm:isMs h d
 ·rw[qag];simp only[stepOp,hm,Bool.false_eq_true,if_false,opVal,qv];rfl
 ·rw[qap];simp only[stepOp,hm,if_true];rfl
@[simp ↓] theorem qxu {c x y}:stepOp P h C ⟨d,.pick c x y,T,pos,af,g⟩ st=ms0 (isMs h d) (bnd (aeval st c) fun t=>bnd (match t with
  | .bool t=>bnd (aeval st (if t=true then x else y)) fun v=>some (dem v)
  | _=>none) fun v=>some (st.put d v)):=by
 cases hm:isMs h d
 ·rw[qag]
  simp only[stepOp,hm,Bool.false_eq_true,if_false,opVal,opPure,qv,q7]
  rfl
 ·rw[qap];simp only[stepOp,hm,if_true];rfl
@[simp ↓] theorem qn8 {x y z}:stepOp P h C ⟨d,.buildSlice x y z,T,pos,af,g⟩ st=ms2 (isMs h d) (bnd (msOp P h ⟨d,.buildSlice x y z,T,pos,af,g⟩ st) fun p=>some (p.2.put d p.1)) (bnd (opPure P h ⟨d,.buildSlice x y z,T,pos,af,g⟩ st) fun v=>some (st.put d v)):=by
 cases hm:isMs h d
 ·rw[qb8];simp only[stepOp,hm,Bool.false_eq_true,if_false,opVal,qv,q7]
 ·rw[qc5];simp only[stepOp,hm,if_true]
@[simp ↓] theorem qxv {t x}:stepOp P h C ⟨d,.load t x,T,pos,af,g⟩ st=ms2 (isMs h d) (bnd (msLoad P h t x st) fun p=>some (p.2.put d p.1)) (bnd (aeval st x) fun p=>bnd (boxOf st p) fun b=>bnd (readCells P t b.1 b.2) fun v=>bnd (if steals h d=true then none else some (dem v)) fun v=>some (st.put d v)):=by
 cases hm:isMs h d
 ·rw[qb8];simp only[stepOp,hm,Bool.false_eq_true,if_false,opVal,opPure,qv,q7]
 ·rw[qc5];simp only[stepOp,hm,if_true];rfl
@[simp ↓] theorem qrv {x}:stepOp P h C ⟨d,.nilCheck x,T,pos,af,g⟩ st=ms0 (isMs h d) (bnd (opPure P h ⟨d,.nilCheck x,T,pos,af,g⟩ st) fun v=>some (st.put d v)):=by
 cases hm:isMs h d
 ·rw[qag];simp only[stepOp,hm,Bool.false_eq_true,if_false,opVal,qv,q7]
 ·rw[qap];simp only[stepOp,hm,if_true];rfl
@[simp ↓] theorem qwq {op t x y v}:stepOp P h C ⟨d,.binOp op t x y v,T,pos,af,g⟩ st=ms0 (isMs h d) (bnd (aeval st x) fun a=>bnd (aeval st y) fun b=>bnd (bin P op (isCst x||isCst y) t a b) fun v=>some (st.put d v)):=by
 cases hm:isMs h d
 ·rw[qag];simp only[stepOp,hm,Bool.false_eq_true,if_false,opVal,opPure,qv,q7]
 ·rw[qap];simp only[stepOp,hm,if_true];rfl
@[simp ↓] theorem qxw {op t x}:stepOp P h C ⟨d,.unOp op t x,T,pos,af,g⟩ st=ms0 (isMs h d) (bnd (aeval st x) fun a=>bnd (un op a) fun v=>some (st.put d v)):=by
 cases hm:isMs h d
 ·rw[qag];simp only[stepOp,hm,Bool.false_eq_true,if_false,opVal,opPure,qv,q7]
 ·rw[qap];simp only[stepOp,hm,if_true];rfl
@[simp ↓] theorem qti {t u x}:stepOp P h C ⟨d,.convert t u x,T,pos,af,g⟩ st=ms2 (isMs h d) (bnd (msConv P h t u x d st) fun p=>some (p.2.put d p.1)) (bnd (aeval st x) fun a=>bnd (conv P t u a) fun v=>some (st.put d v)):=by
 cases hm:isMs h d
 ·rw[qb8];simp only[stepOp,hm,Bool.false_eq_true,if_false,opVal,opPure,qv,q7]
 ·rw[qc5];simp only[stepOp,hm,if_true];rfl
@[simp ↓] theorem qld {x y}:stepOp P h C ⟨d,.makeInterface x y,T,pos,af,g⟩ st=ms0 (isMs h d) (bnd (opPure P h ⟨d,.makeInterface x y,T,pos,af,g⟩ st) fun v=>some (st.put d v)):=by
 cases hm:isMs h d
 ·rw[qag];simp only[stepOp,hm,Bool.false_eq_true,if_false,opVal,qv,q7]
 ·rw[qap];simp only[stepOp,hm,if_true];rfl
@[simp ↓] theorem qrw {x y z}:stepOp P h C ⟨d,.makeFunc (.func x) y z,T,pos,af,g⟩ st=ms0 (isMs h d) (bnd (opPure P h ⟨d,.makeFunc (.func x) y z,T,pos,af,g⟩ st) fun v=>some (st.put d v)):=by
 cases hm:isMs h d
 ·rw[qag];simp only[stepOp,hm,Bool.false_eq_true,if_false,opVal,qv,q7]
 ·rw[qap];simp only[stepOp,hm,if_true];rfl
@[simp ↓] theorem qqn {x y z}:stepOp P h C ⟨d,.makeSlice x y z,T,pos,af,g⟩ st=ms2 (isMs h d) (bnd (msOp P h ⟨d,.makeSlice x y z,T,pos,af,g⟩ st) fun p=>some (p.2.put d p.1)) (bnd (opPure P h ⟨d,.makeSlice x y z,T,pos,af,g⟩ st) fun v=>some (st.put d v)):=by
 cases hm:isMs h d
 ·rw[qb8];simp only[stepOp,hm,Bool.false_eq_true,if_false,opVal,qv,q7]
 ·rw[qc5];simp only[stepOp,hm,if_true]
@[simp ↓] theorem qwr {t x lo hi mx}:stepOp P h C ⟨d,.slice t x lo hi mx,T,pos,af,g⟩ st=ms2 (isMs h d) (bnd (msSlice P t x lo hi mx st) fun p=>some (p.2.put d p.1)) (bnd (aeval st x) fun v=>bnd (aevalO st lo) fun lo=>bnd (aevalO st hi) fun hi=>bnd (aevalO st mx) fun mx=>bnd (sliceA P t v lo hi mx) fun v=>some (st.put d v)):=by
 cases hm:isMs h d
 ·rw[qb8];simp only[stepOp,hm,Bool.false_eq_true,if_false,opVal,opPure,qv,q7]
 ·rw[qc5];simp only[stepOp,hm,if_true];rfl
@[simp ↓] theorem qqo {t x f}:stepOp P h C ⟨d,.fieldAddr t x f,T,pos,af,g⟩ st=ms0 (isMs h d) (bnd (aeval st x) fun a=>bnd (fieldAddrA P t a f) fun v=>some (st.put d v)):=by
 cases hm:isMs h d
 ·rw[qag];simp only[stepOp,hm,Bool.false_eq_true,if_false,opVal,opPure,qv,q7]
 ·rw[qap];simp only[stepOp,hm,if_true];rfl
@[simp ↓] theorem qws {x y z}:stepOp P h C ⟨d,.field x y z,T,pos,af,g⟩ st=ms0 (isMs h d) (bnd (opPure P h ⟨d,.field x y z,T,pos,af,g⟩ st) fun v=>some (st.put d v)):=by
 cases hm:isMs h d
 ·rw[qag];simp only[stepOp,hm,Bool.false_eq_true,if_false,opVal,qv,q7]
 ·rw[qap];simp only[stepOp,hm,if_true];rfl
@[simp ↓] theorem qqp {t x i}:stepOp P h C ⟨d,.indexAddr t x i,T,pos,af,g⟩ st=ms0 (isMs h d) (bnd (aeval st x) fun a=>bnd (aeval st i) fun i=>bnd (indexAddrA P t a i) fun v=>some (st.put d v)):=by
 cases hm:isMs h d
 ·rw[qag];simp only[stepOp,hm,Bool.false_eq_true,if_false,opVal,opPure,qv,q7]
 ·rw[qap];simp only[stepOp,hm,if_true];rfl
@[simp ↓] theorem qwt {t x i}:stepOp P h C ⟨d,.index t x i,T,pos,af,g⟩ st=ms0 (isMs h d) (bnd (aeval st x) fun a=>bnd (aeval st i) fun i=>bnd (indexA P t a i) fun v=>some (st.put d (dem v))):=by
 cases hm:isMs h d
 ·rw[qag];simp only[stepOp,hm,Bool.false_eq_true,if_false,opVal,opPure,qv,q7]
 ·rw[qap];simp only[stepOp,hm,if_true];rfl
@[simp ↓] theorem quk {t x i}:stepOp P h C ⟨d,.lookup t x i false,T,pos,af,g⟩ st=ms0 (isMs h d) (bnd (aeval st x) fun a=>bnd (aeval st i) fun i=>bnd (lookA P t a i) fun v=>some (st.put d (dem v))):=by
 cases hm:isMs h d
 ·rw[qag];simp only[stepOp,hm,Bool.false_eq_true,if_false,opVal,opPure,qv,q7]
 ·rw[qap];simp only[stepOp,hm,if_true];rfl
@[simp ↓] theorem qxx {c}:stepOp P h C ⟨d,.call c,T,pos,af,g⟩ st=ms2 (isMs h d) (bnd (msOp P h ⟨d,.call c,T,pos,af,g⟩ st) fun p=>some (p.2.put d p.1)) (bnd (callA P h C d c st) fun p=>some (p.2.put d p.1)):=by
 cases hm:isMs h d
 ·rw[qb8];simp only[stepOp,hm,Bool.false_eq_true,if_false,opVal]
 ·rw[qc5];simp only[stepOp,hm,if_true]
@[simp ↓] theorem qul {x y t t'}:msOp P h ⟨d,.call ⟨.builtin .append,#[x,y],#[t,t']⟩,T,pos,af,g⟩ st=msAppend P h t t' x y d st:=nrfl rfl
@[simp ↓] theorem qxy {x y t t'}:msOp P h ⟨d,.call ⟨.builtin .copy,#[x,y],#[t,t']⟩,T,pos,af,g⟩ st=msCopy P t t' x y st:=nrfl rfl
@[simp ↓] theorem qwu {t}:stepOp P h C ⟨d,.alloc t,T,pos,af,g⟩ st=bnd (zeroA P t) fun z=>newBox h d t z.cells st:=nrfl rfl
@[simp ↓] theorem step_box {t x}:stepOp P h C ⟨d,.box t x,T,pos,af,g⟩ st=bnd (takeOp st x) fun p=>if pers p.1=true then bnd (norm P t p.1) fun v=>newBox h d t v.cells p.2 else none:=nrfl rfl
@[simp ↓] theorem qwv {t a x}:stepOp P h C ⟨none,.store t a x,T,pos,af,g⟩ st=storeA P t a x st:=nrfl rfl
@[simp ↓] theorem qww {f xs ts}:callA P h C d ⟨.value f,xs,ts⟩ st=bnd (aeval st f) fun g=>match g with
  | .fn g cap=>if g<100000 then bnd (aevals st xs.toList) fun as=>bnd (args as) fun as=>bnd (moved st xs.toList as (mvI h d)) fun q=>bnd (C (vary h d g) (q.1++cap) q.2.s) fun r=>some (r.1,{q.2 with s:=r.2}) else none
  | .fb g fs=>if g<100000 then bnd (aevals st xs.toList) fun as=>bnd (args as) fun as=>bnd (C (vary h d g) (fs++as) st.s) fun r=>some (r.1,{st with s:=r.2}) else none
  | _=>none:=nrfl rfl
@[simp ↓] theorem qwx {st:St} {xs as}:moved st xs as none=some (as,st):=nrfl rfl
@[simp ↓] theorem qwy {st:St} {xs as i}:moved st xs as (some i)=bnd xs[i]? fun x=>bnd (takeOp st x) fun p=>match p.1 with
  | .sl (.ex ty sz) ys=>some (as.set i (.sl (.ex ty sz) ys),p.2)
  | .ms _ _ _ _ _=>some (as,st)
  | _=>none:=nrfl rfl
@[simp ↓] theorem qum {rv:Operand} {name:String} {xs ts}:callA P h C d ⟨.invoke rv name,xs,ts⟩ st=bnd (aeval st rv) fun v=>match v with
  | .ifc t v=>bnd (invF h d) fun g=>if g<100000∧pers v=true∧quiet v=true then need (meth P t g name) (bnd (aevals st xs.toList) fun as=>bnd (args as) fun as=>bnd (C (vary h d g) (v::as) st.s) fun r=>some (r.1,{st with s:=r.2})) else none
  | _=>none:=nrfl rfl
attribute [simp] invF mvI
@[simp ↓] theorem qun {x y t t'}:callA P h C d ⟨.builtin .append,#[x,y],#[t,t']⟩ st=appendA P t t' x y st:=nrfl rfl
@[simp ↓] theorem call_len {x t} : callA P h C d ⟨.builtin .len, #[x], #[t]⟩ st = bnd (aeval st x) fun v => match v with
      | .sl _ xs => if (elemA P t).isSome then some (.int .i64 xs.length, st) else none
      | .ms _ _ _ _ n => if (elemA P t).isSome then some (.int .i64 n, st) else none
      | .str s => need (P.underlying t = some .string) (some (.int .i64 s.length, st))
      | _ => none := by
  simp only [callA, builtP]
  show bnd (bnd (aeval st x) _) _ = _
  rw [qv]
  cases aeval st x with
  | none => rfl
  | some v =>
    cases v with
    | sl o xs => simp only [q7]; split <;> rfl
    | ms ty sz b off n => simp only [q7]; split <;> rfl
    | str s => simp only [q7, need]; split <;> rfl
    | _ => rfl
@[simp ↓] theorem call_min {x y ts} : callA P h C d ⟨.builtin .min, #[x, y], ts⟩ st = bnd (aeval st x) fun v => bnd (aeval st y) fun u => match v, u with
      | .int k a, .int _ b => some (.int k (if b < a then b else a), st)
      | _, _ => none := by
  simp only [callA, builtP]
  show bnd (bnd (aeval st x) _) _ = _
  rw [qv]
  cases aeval st x with
  | none => rfl
  | some v =>
    simp only [q7, qv]
    cases aeval st y with
    | none => rfl
    | some u => cases v <;> cases u <;> rfl
@[simp] theorem max4_int {k k1 k2 k3:IntKind} {a b c d:Int}:max4 (.int k a) (.int k1 b) (.int k2 c) (.int k3 d)=some (.int k (mxI (mxI (mxI a b) c) d)):=nrfl rfl
@[simp ↓] theorem qxz {x y z q ts}:callA P h C d ⟨.builtin .max,#[x,y,z,q],ts⟩ st=bnd (aeval st x) fun v=>bnd (aeval st y) fun u=>bnd (aeval st z) fun t=>bnd (aeval st q) fun r=>bnd (max4 v u t r) fun v=>some (v,st):=by
 simp only[callA,builtP,qv]
@[simp ↓] theorem call_max {x y ts} : callA P h C d ⟨.builtin .max, #[x, y], ts⟩ st = bnd (aeval st x) fun v => bnd (aeval st y) fun u => match v, u with
      | .int k a, .int _ b => some (.int k (if a < b then b else a), st)
      | _, _ => none := by
  simp only [callA, builtP]
  show bnd (bnd (aeval st x) _) _ = _
  rw [qv]
  cases aeval st x with
  | none => rfl
  | some v =>
    simp only [q7, qv]
    cases aeval st y with
    | none => rfl
    | some u => cases v <;> cases u <;> rfl
end
section
variable {d:Option Tmp} {n:Nat} {j i:Nat}
@[simp ↓] theorem qwz {t l s i}:aeval ⟨t,l,s⟩ (.tmp i)=look t i:=nrfl rfl
@[simp] theorem qx0 {t}:aeval st (.tmp t)=look st.t t:=nrfl rfl
@[simp ↓] theorem qup {v}:aeval st (.const v)=ofVal v:=nrfl rfl
@[simp ↓] theorem qw0 {f}:aeval st (.func f)=some (.fn f []):=nrfl rfl
@[simp ↓] theorem take_tmp' {t l s i}:takeOp ⟨t,l,s⟩ (.tmp i)=bnd (look t i) fun v=>some (v,⟨ins t i (dem v),l,s⟩):=nrfl rfl
@[simp] theorem take_tmp {t}:takeOp st (.tmp t)=bnd (look st.t t) fun v=>some (v,{st with t:=ins st.t t (dem v)}):=nrfl rfl
@[simp ↓] theorem take_const {v}:takeOp st (.const v)=bnd (ofVal v) fun v=>some (v,st):=nrfl rfl
@[simp ↓] theorem take_func {v}:takeOp st (.func v)=bnd (some (.fn v [])) fun v=>some (v,st):=nrfl rfl
@[simp ↓] theorem qrx {α:Type}:look ([]:List (Nat×α)) i=none:=nrfl rfl
@[simp ↓] theorem qn9 {α:Type} {u:α} {r}:look ((j,u)::r) i=if j=i then some u else look r i:=nrfl rfl
@[simp ↓] theorem quq {α:Type} {v:α}:ins [] i v=[(i,v)]:=nrfl rfl
@[simp ↓] theorem qry {α:Type} {u v:α} {r}:ins ((j,u)::r) i v=if j=i then (i,v)::r else (j,u)::ins r i v:=nrfl rfl
@[simp ↓] theorem qur:mem [] i=false:=nrfl rfl
@[simp ↓] theorem mem_cons {r}:mem (j::r) i=if j=i then true else mem r i:=nrfl rfl
@[simp ↓] theorem qrz {α:Type} {l}:keep l ([]:List (Nat×α))=[]:=nrfl rfl
@[simp ↓] theorem qoa {α:Type} {l} {u:α} {r}:keep l ((j,u)::r)=if mem l j=true then (j,u)::keep l r else keep l r:=nrfl rfl
@[simp ↓] theorem qr0 {α:Type} {l}:drop l ([]:List (Nat×α))=[]:=nrfl rfl
@[simp ↓] theorem qob {α:Type} {l} {u:α} {r}:drop l ((j,u)::r)=if mem l j=true then drop l r else (j,u)::drop l r:=nrfl rfl
@[simp ↓] theorem qmd:dropLp i []=[]:=nrfl rfl
@[simp ↓] theorem qj4 {u r}:dropLp i ((j,u)::r)=if isLp i u=true then dropLp i r else (j,u)::dropLp i r:=nrfl rfl
@[simp] theorem put_some {v}:st.put (some n) v={st with t:=ins st.t n v}:=nrfl rfl
@[simp] theorem put_none {v}:st.put none v=st:=nrfl rfl
@[simp ↓] theorem qus {ops}:wantedA ops none st=some true:=nrfl rfl
@[simp ↓] theorem qut {ops j w}:wantedA ops (some (j,w)) st=match dstAt ops j with
  | some d=>bnd (look st.t d) fun v=>match v with
   | .bool b=>some (b==w)
   | .tup _=>some false
   | _=>none
  | none=>some false:=nrfl rfl
@[simp ↓] theorem qw1 {o r}:dstAt (o::r) 0=o.dst:=nrfl rfl
@[simp ↓] theorem qw2 {o r}:dstAt (o::r) (j+1)=dstAt r j:=nrfl rfl
@[simp ↓] theorem qx1 {x}:lend st x true=takeOp st x:=nrfl rfl
@[simp ↓] theorem qw3 {x}:lend st x false=bnd (aeval st x) fun v=>some (dem v,st):=nrfl rfl
@[simp ↓] theorem qb {ops}:regionA P h C ops true st=qfl (allocDs ops) fun ds=>strict (startD ds st) fun st=>runD P h C ds ops ops st:=nrfl rfl
@[simp ↓] theorem qr1 {ops}:regionA P h C ops false st=runOps P h C ops ops st:=nrfl rfl
@[simp ↓] theorem quu:allocDs []=[]:=nrfl rfl
@[simp ↓] theorem qr2 {d t T pos af g r}:allocDs (⟨d,.alloc t,T,pos,af,g⟩::r)=d.toList++allocDs r:=nrfl rfl
@[simp ↓] theorem quv {d t x T pos af g r}:allocDs (⟨d,.box t x,T,pos,af,g⟩::r)=d.toList++allocDs r:=nrfl rfl
@[simp ↓] theorem qtj {o r}:allocDs (o::r)=match o.op with
  | .alloc _=>o.dst.toList++allocDs r
  | .box _ _=>o.dst.toList++allocDs r
  | _=>allocDs r:=nrfl rfl
end
attribute [simp] qrx qn9 quq qry qur mem_cons qrz qoa qr0 qob qmd qj4
attribute [simp ↓] q7 qrs thenE_normal thenE_ret thenE_exit thenE_none qj3 qrt qn6 qmc qlc qi2 qn7
attribute [simp] opPure aevals aevalO isLp dem dem1 clean0 clean1 head rid ofVal qe3 ofVals pers finE outA resultsA resultsT resultA steals args arg argN demN params lend
attribute [simp] allowS seesS adS
attribute [simp] nat? bound? AV.cells writeCells boxOf setBox newBox isNilP startD dropAll preD postD okAll okLp boxR boxW rootT tkT wrT noLp parts storeA
section
variable {t:TypeId} {k:IntKind} {a b:Int} {c:Bool}
@[simp] theorem norm_int:norm P t (.int k a)=some (.int k a):=nrfl rfl
@[simp] theorem qx2 {b}:norm P t (.bool b)=some (.bool b):=nrfl rfl
@[simp] theorem norm_str {s}:norm P t (.str s)=some (.str s):=nrfl rfl
@[simp] theorem norm_agg {s}:norm P t (.agg s)=some (.agg s):=nrfl rfl
@[simp] theorem norm_ex {e n xs}:norm P t (.sl (.ex e n) xs)=some (.sl (.ex e n) xs):=nrfl rfl
@[simp] theorem norm_sh {xs}:norm P t (.sl .sh xs)=some (.sl .sh xs):=nrfl rfl
@[simp] theorem norm_fn {f xs}:norm P t (.fn f xs)=some (.fn f xs):=nrfl rfl
@[simp] theorem norm_fb {f xs}:norm P t (.fb f xs)=some (.fb f xs):=nrfl rfl
@[simp] theorem norm_ifc {f xs}:norm P t (.ifc f xs)=some (.ifc f xs):=nrfl rfl
@[simp] theorem qx3:norm P t .nili=some .nili:=nrfl rfl
@[simp] theorem qx4:norm P t .nilf=some .nilf:=nrfl rfl
@[simp] theorem qx5:norm P t .nilp=some .nilp:=nrfl rfl
@[simp] theorem norm_vp {xs i}:norm P t (.vp xs i)=some (.vp xs i):=nrfl rfl
@[simp] theorem norm_lp {xs i}:norm P t (.lp xs i)=some (.lp xs i):=nrfl rfl
@[simp] theorem norm_gp {xs i sh}:norm P t (.gp xs i sh)=some (.gp xs i sh):=nrfl rfl
@[simp] theorem norm_ms {a1 a2 a3 a4 a5}:norm P t (.ms a1 a2 a3 a4 a5)=some (.ms a1 a2 a3 a4 a5):=nrfl rfl
@[simp] theorem norm_ifx:norm P t .ifx=some .ifx:=nrfl rfl
@[simp] theorem norm_any:norm P t .any=some .any:=nrfl rfl
@[simp] theorem norm_tup {xs}:norm P t (.tup xs)=some (.tup xs):=nrfl rfl
@[simp] theorem norm_nil {xs}:norm P t (.sl .nil xs)=match elemA P t with
  | some e=>bnd (sizeA P e) fun n=>some (.sl (.ex e n) xs)
  | none=>some (.sl .nil xs):=rfl
@[simp] theorem bin_add:bin P .add c t (.int k a) (.int k b)=some (.int k (k.wrap (a+b))):=by simp[bin,binI]
@[simp] theorem bin_sub:bin P .sub c t (.int k a) (.int k b)=some (.int k (k.wrap (a-b))):=by simp[bin,binI]
@[simp] theorem bin_mul:bin P .mul c t (.int k a) (.int k b)=some (.int k (k.wrap (a*b))):=by simp[bin,binI]
@[simp] theorem bin_quo:bin P .quo c t (.int k a) (.int k b)=if b=0 then none else some (.int k (k.wrap (a.tdiv b))):=by simp[bin,binI]
@[simp] theorem bin_rem:bin P .rem c t (.int k a) (.int k b)=if b=0 then none else some (.int k (a.tmod b)):=by simp[bin,binI]
@[simp] theorem bin_and:bin P .and c t (.int k a) (.int k b)=some (.int k (bits .and k a b)):=by simp[bin,binI]
@[simp] theorem bin_or:bin P .or c t (.int k a) (.int k b)=some (.int k (bits .or k a b)):=by simp[bin,binI]
@[simp] theorem bin_xor:bin P .xor c t (.int k a) (.int k b)=some (.int k (bits .xor k a b)):=by simp[bin,binI]
@[simp] theorem qw4:bin P .andNot c t (.int k a) (.int k b)=some (.int k (bits .andNot k a b)):=by simp[bin,binI]
@[simp] theorem bin_lss:bin P .lss c t (.int k a) (.int k b)=some (.bool (decide (a<b))):=by simp[bin,binI]
@[simp] theorem bin_leq:bin P .leq c t (.int k a) (.int k b)=some (.bool (decide (a≤b))):=by simp[bin,binI]
@[simp] theorem bin_gtr:bin P .gtr c t (.int k a) (.int k b)=some (.bool (decide (b<a))):=by simp[bin,binI]
@[simp] theorem bin_geq:bin P .geq c t (.int k a) (.int k b)=some (.bool (decide (b≤a))):=by simp[bin,binI]
@[simp] theorem bin_eql:bin P .eql c t (.int k a) (.int k b)=some (.bool (decide (a=b))):=by simp[bin,binI];rfl
@[simp] theorem bin_neq:bin P .neq c t (.int k a) (.int k b)=some (.bool (decide (a≠b))):=by simp[bin,binI];rw[Bool.eq_iff_iff];simp
@[simp] theorem bin_shl {k'}:bin P .shl c t (.int k a) (.int k' b)=if b<0 then none else some (.int k (k.wrap (a*2^min b.toNat k.bits))):=by simp only[bin]
@[simp] theorem bin_shr {k'}:bin P .shr c t (.int k a) (.int k' b)=if b<0 then none else some (.int k (a.fdiv (2^min b.toNat k.bits))):=by simp only[bin]
@[simp] theorem quw {x y}:bin P .add c t (.str x) (.str y)=need (x.length+y.length≤most) (some (.str (x++y))):=nrfl rfl
@[simp] theorem qux {x y}:bin P .eql c t (.str x) (.str y)=some (.bool (x==y)):=nrfl rfl
@[simp] theorem quy {x y}:bin P .neq c t (.str x) (.str y)=some (.bool !(x==y)):=nrfl rfl
@[simp] theorem quz {x y}:bin P .lss c t (.str x) (.str y)=some (.bool (Op.bytesLess x y)):=nrfl rfl
@[simp] theorem qu0 {x y}:bin P .leq c t (.str x) (.str y)=some (.bool (Op.bytesLess x y||x==y)):=nrfl rfl
@[simp] theorem qu1 {x y}:bin P .gtr c t (.str x) (.str y)=some (.bool !(Op.bytesLess x y||x==y)):=nrfl rfl
@[simp] theorem qu2 {x y}:bin P .geq c t (.str x) (.str y)=some (.bool !(Op.bytesLess x y)):=nrfl rfl
@[simp] theorem qu3 {x y}:bin P .eql c t (.agg x) (.agg y)=bnd (eqShape P t) fun ks=>bnd (eqCs ks x y) fun b=>some (.bool b):=nrfl rfl
@[simp] theorem qu4 {x y}:bin P .neq c t (.agg x) (.agg y)=bnd (eqShape P t) fun ks=>bnd (eqCs ks x y) fun b=>some (.bool !b):=nrfl rfl
@[simp] theorem qtk:bin P .eql c t .nili .nili=if isIface P t&&(c||!true) then some (.bool true) else none:=nrfl rfl
@[simp] theorem qm4 {u v}:bin P .eql c t (.ifc u v) .nili=if isIface P t&&(c||!false) then some (.bool false) else none:=nrfl rfl
@[simp] theorem qm5:bin P .eql c t .ifx .nili=if isIface P t&&(c||!false) then some (.bool false) else none:=nrfl rfl
@[simp] theorem qtl:bin P .neq c t .nili .nili=if isIface P t&&(c||!true) then some (.bool !true) else none:=nrfl rfl
@[simp] theorem qm6 {u v}:bin P .neq c t (.ifc u v) .nili=if isIface P t&&(c||!false) then some (.bool !false) else none:=nrfl rfl
@[simp] theorem qm7:bin P .neq c t .ifx .nili=if isIface P t&&(c||!false) then some (.bool !false) else none:=nrfl rfl
@[simp] theorem qtm:bin P .eql c t .nilf .nilf=if isFuncT P t then some (.bool true) else none:=nrfl rfl
@[simp] theorem qoc {u v}:bin P .eql c t (.fn u v) .nilf=if isFuncT P t then some (.bool false) else none:=nrfl rfl
@[simp] theorem qtn:bin P .neq c t .nilf .nilf=if isFuncT P t then some (.bool !true) else none:=nrfl rfl
@[simp] theorem qod {u v}:bin P .neq c t (.fn u v) .nilf=if isFuncT P t then some (.bool !false) else none:=nrfl rfl
@[simp] theorem qto {o xs ys}:bin P .eql c t (.sl o xs) (.sl .nil ys)=bnd (isNilS (.sl o xs)) fun b=>if (elemA P t).isSome then some (.bool b) else none:=nrfl rfl
@[simp] theorem qtp {o xs ys}:bin P .neq c t (.sl o xs) (.sl .nil ys)=bnd (isNilS (.sl o xs)) fun b=>if (elemA P t).isSome then some (.bool !b) else none:=nrfl rfl
@[simp] theorem qoe {a1 a2 a3 a4 a5 ys}:bin P .eql c t (.ms a1 a2 a3 a4 a5) (.sl .nil ys)=if (elemA P t).isSome then some (.bool false) else none:=nrfl rfl
@[simp] theorem qof {a1 a2 a3 a4 a5 ys}:bin P .neq c t (.ms a1 a2 a3 a4 a5) (.sl .nil ys)=if (elemA P t).isSome then some (.bool !false) else none:=nrfl rfl
@[simp] theorem qtq {x y}:bin P .eql c t (.bool x) (.bool y)=need (P.underlying t=some .bool) (some (.bool (x==y))):=nrfl rfl
@[simp] theorem qtr {x y}:bin P .neq c t (.bool x) (.bool y)=need (P.underlying t=some .bool) (some (.bool !(x==y))):=nrfl rfl
@[simp] theorem un_not {x}:un .not (.bool x)=some (.bool !x):=nrfl rfl
@[simp] theorem un_neg:un .neg (.int k a)=some (.int k (k.wrap (0-a))):=nrfl rfl
@[simp] theorem un_xor:un .xor (.int k a)=some (.int k (bits .xor k (if k.signed then -1 else k.max) a)):=nrfl rfl
end
attribute [simp ↓] qnp qra qnq qnr qrb ql8
@[simp ↓] theorem qts {i l d}:EXEC P h C (.region i (List.toArray l) d) st=strict (clean0 h st) fun st=>bnd (regionA P h C l d st) fun st=>some (.normal,clean1 h st):=by rw[qjw];rfl
def structA (P:Program) (t:TypeId):Option (List (Nat×Nat)) :=
 match P.underlying t with
 | some (.struct fs)=>placesA P fs.toList
 | _=>none
def buildPl (P:Program) (t:TypeId):Option (Nat→Option (Nat×Nat)) :=
 match P.underlying t with
 | some (.struct fs)=>bnd (placesA P fs.toList) fun pl=>some fun i=>pl[i]?
 | some (.array _ e)=>bnd (sizeA P e) fun sz=>some fun i=>some (i*sz,sz)
 | _=>none
@[simp ↓] theorem qw5 {d:Option Tmp} {t:TypeId} {ps:Array (Nat×Operand)} {T:TypeId} {pos:String} {af:Array Edge} {g:Option (Nat×Bool)} :
  stepOp P h C ⟨d,.build t ps,T,pos,af,g⟩ st=ms0 (isMs h d) (bnd (zeroA P t) fun z=>bnd (parts st ps.toList) fun l=>bnd (buildPl P t) fun pl=>bnd (fillA pl z.cells l) fun cs=>some (st.put d (.agg cs))):=by
 cases hm:isMs h d
 ·rw[qag]
  simp only[stepOp,hm,Bool.false_eq_true,if_false,opVal,opPure,qv,q7,buildPl]
  cases P.underlying t with
  | none=>rfl
  | some dsc=>cases dsc<;>first|rfl|(simp only[qv,q7])
 ·rw[qap];simp only[stepOp,hm,if_true];rfl
attribute [simp] fillA setA
def Post (o:Option (Ex×St)) (K:Ex→St→Prop):Prop:=∃e st,o=some (e,st)∧K e st
@[congr] theorem qw6 {x y:Option (Ex×St)} {K:Ex→St→Prop} (e:x=y):Post x K=Post y K:=by rw[e]
@[simp] theorem qog {e:Ex} {s:St} {K:Ex→St→Prop}:Post (some (e,s)) K↔K e s:=by
 constructor
 ·rintro⟨e',s',h,k⟩
  simp only[Option.some.injEq,Prod.mk.injEq] at h
  obtain⟨rfl,rfl⟩:=h
  exact k
 ·exact fun k=>⟨e,s,rfl,k⟩
@[simp] theorem qoh {K:Ex→St→Prop}:Post none K↔False:=by
 constructor
 ·rintro⟨_,_,h,_⟩;cases h
 ·exact False.elim
attribute [simp ↓] qog qoh
def thenK (k:St→Option (Ex×St)) (K:Ex→St→Prop):Ex→St→Prop
 | .normal,st=>Post (k st) K
 | e,st=>K e st
def blkK (id:Nat) (K:Ex→St→Prop):Ex→St→Prop
 | .exit id',st=>if id'=id then K .normal st else K (.exit id') st
 | e,st=>K e st
@[congr] theorem thenK_congr {k:St→Option (Ex×St)} {K:Ex→St→Prop} {e e':Ex} {s s':St} (h1:e=e') (h2:s=s'):thenK k K e s=thenK k K e' s':=by rw[h1,h2]
@[congr] theorem qw7 {i:Nat} {K:Ex→St→Prop} {e e':Ex} {s s':St} (h1:e=e') (h2:s=s'):blkK i K e s=blkK i K e' s':=by rw[h1,h2]
@[simp ↓] theorem thenK_normal {k:St→Option (Ex×St)} {K:Ex→St→Prop} {s:St}:thenK k K .normal s↔Post (k s) K:=Iff.rfl
@[simp ↓] theorem thenK_ret {k:St→Option (Ex×St)} {K:Ex→St→Prop} {s:St}:thenK k K .ret s↔K .ret s:=Iff.rfl
@[simp ↓] theorem thenK_exit {k:St→Option (Ex×St)} {K:Ex→St→Prop} {s:St} {i}:thenK k K (.exit i) s↔K (.exit i) s:=Iff.rfl
@[simp ↓] theorem qu5 {i} {K:Ex→St→Prop} {s:St}:blkK i K .normal s↔K .normal s:=Iff.rfl
@[simp ↓] theorem blkK_ret {i} {K:Ex→St→Prop} {s:St}:blkK i K .ret s↔K .ret s:=Iff.rfl
@[simp ↓] theorem qx6 {i j} {K:Ex→St→Prop} {s:St}:blkK i K (.exit j) s↔if j=i then K .normal s else K (.exit j) s:=Iff.rfl
@[simp ↓] theorem qme {x:Option (Ex×St)} {k:St→Option (Ex×St)} {K:Ex→St→Prop}:Post (thenE x k) K↔Post x (thenK k K):=by
 cases x with
 | none=>simp
 | some p=>obtain⟨e,s⟩:=p;cases e<;>simp
@[simp ↓] theorem qx7 {x:Option (Ex×St)} {i} {K:Ex→St→Prop}:Post (blkE i x) K↔Post x (blkK i K):=by
 cases x with
 | none=>constructor<;>rintro⟨_,_,h,_⟩<;>cases h
 | some p=>obtain⟨e,s⟩:=p;cases e<;>simp;split<;>simp
def roundK {α:Type} (h:Hint) (id:Nat) (I:α→St) (Pr:α→Prop) (μ:α→Nat) (x:α) (K:Ex→St→Prop):Ex→St→Prop
 | .normal,st=>∃y,Pr y∧μ y<μ x∧head h id st=I y
 | e,st=>K e st
@[congr] theorem qtt {α:Type} {id:Nat} {I:α→St} {Pr:α→Prop} {μ:α→Nat} {x:α} {K:Ex→St→Prop} {e e':Ex} {s s':St} (h1:e=e') (h2:s=s'):roundK h id I Pr μ x K e s=roundK h id I Pr μ x K e' s':=by rw[h1,h2]
@[simp ↓] theorem qr3 {α:Type} {id:Nat} {I:α→St} {Pr:α→Prop} {μ:α→Nat} {x:α} {K:Ex→St→Prop} {s:St}:roundK h id I Pr μ x K .normal s↔∃y,Pr y∧μ y<μ x∧head h id s=I y:=Iff.rfl
@[simp ↓] theorem qw8 {α:Type} {id:Nat} {I:α→St} {Pr:α→Prop} {μ:α→Nat} {x:α} {K:Ex→St→Prop} {s:St}:roundK h id I Pr μ x K .ret s↔K .ret s:=Iff.rfl
@[simp ↓] theorem qu6 {α:Type} {id:Nat} {I:α→St} {Pr:α→Prop} {μ:α→Nat} {x:α} {K:Ex→St→Prop} {s:St} {i}:roundK h id I Pr μ x K (.exit i) s↔K (.exit i) s:=Iff.rfl
theorem qn {α:Type} (I:α→St) (Pr:α→Prop) (μ:α→Nat) (a:α) {c:Code} {s:St} {K:Ex→St→Prop} (h0:head h (rid c) s=I a) (hp:Pr a)
  (hs:∀x,Pr x→Post (EXEC P h C c (I x)) (roundK h (rid c) I Pr μ x K)):Post (EXEC P h C (.loop c) s) K:=by
 have key:∀n x s,μ x=n→Pr x→head h (rid c) s=I x→Post (EXEC P h C (.loop c) s) K:=by
  intro n
  induction n using Nat.strongRecOn with
  | _ n ih =>
   intro x s hn hx hh
   rw[qns,hh,qme]
   obtain⟨e,s1,h1,h2⟩:=hs x hx
   refine⟨e,s1,h1,?_⟩
   cases e with
   | normal=>obtain⟨y,hy,hlt,hd⟩:=h2;exact ih (μ y) (hn▸hlt) y s1 rfl hy hd
   | _=>exact h2
 exact key _ a s rfl hp h0
theorem qd {H:FuncId→Hint} {T:Table} {f:FuncId} {fn:Func} {c:Code} {as:List AV} {s:List (List AV)} {r:AV×List (List AV)} (hT:T f=none) (hf:P.funcs[AI.base f]? = some fn) (hb:fn.body=some c)
  (hn:as.length≤fn.ntmps) (hc:codeOk (H f) fn.ntmps c=true) (hg:(fn.name== "runtime.NumGoroutine")=false)
  (hp:Post (EXEC P (H f) (EV P H T) c ⟨params 0 as,[],s⟩) fun e st=>finE P (H f) s fn (some (e,st))=some r) (h9:f<900000:=by decide):EV P H T f as s=some r:=by
 rw[qud hT h9 hf]
 unfold body
 rw[hb]
 simp only[bnd]
 rw[if_pos ⟨hn,hc,hg⟩]
 obtain⟨e,st,h1,h2⟩:=hp
 rw[h1];exact h2
end
theorem qk {n:Int} (h:-9223372036854775808≤n∧n≤9223372036854775807):IntKind.i64.wrap n=n:=by
 simp only[IntKind.wrap,IntKind.signed,IntKind.bits];simp;split<;>omega
theorem qu7 {n:Int} (h:0≤n∧n<18446744073709551616):IntKind.u64.wrap n=n:=by
 simp only[IntKind.wrap,IntKind.signed,IntKind.bits];simp;omega
end Go.AI
end
